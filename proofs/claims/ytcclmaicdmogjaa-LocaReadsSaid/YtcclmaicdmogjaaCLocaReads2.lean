/- Part 3 of the proof of the law LocaReads: where glyphs lie by any bytes, or the error, is the document's, at every bytes, either width and every number of glyphs; the bytes stay. -/
import Derived.Test.YtcclmaicdmogjaaCLocaReads0
import Derived.Test.YtcclmaicdmogjaaCLocaReads1
namespace Go.Proofs.Ytcclmaicdmogjaa.P
open Go.RowKit Go.Proofs.YtcclmaicdmogjaaW.PrintWords Go.Proofs.YtcclmaicdmogjaaW.PrintLast Go.Proofs.YtcclmaicdmogjaaW.PrintMore
set_option linter.unusedVariables false
set_option linter.unusedSimpArgs false

-- USES be_U be_S be_Put be_there calamusref02_U calamusref02_S calamusref02_There calamusref02_Put
-- NEEDS gen
theorem there_eq (l0 : List Int) (a1 a2 : Int) (hm : l0.length ≤ 9223372036854775807) (h1 : inI a1) (h2 : inI a2) : be_there.f l0 a1 a2 = some (decide (0 ≤ a1 ∧ 0 ≤ a2 ∧ a1 + a2 ≤ l0.length)) := by
  unfold inI at h1 h2
  unfold be_there.f
  by_cases c1 : a1 ≥ 0
  · rw [if_pos c1]
    by_cases c2 : a2 ≥ 0
    · rw [if_pos c2]
      by_cases c3 : a1 ≤ (l0.length : Int)
      · rw [if_pos c3, IntWalk.wrap64_in _ ⟨by omega, by omega⟩]
        congr 1
        rw [decide_eq_decide]; omega
      · rw [if_neg c3]; simp; omega
    · rw [if_neg c2]; simp; omega
  · rw [if_neg c1]; simp; omega
theorem refthere_eq (l0 : List Int) (a1 a2 : Int) (hm : l0.length ≤ 9223372036854775807) (h1 : inI a1) (h2 : inI a2) : calamusref02_There.f l0 a1 a2 = some (decide (0 ≤ a1 ∧ 0 ≤ a2 ∧ a1 + a2 ≤ l0.length)) := there_eq l0 a1 a2 hm h1 h2
theorem rd_nat (l : List Int) (i : Nat) : rd l (i : Int) = l.getD i 0 := rfl
theorem getD_drop (l : List Int) (a j : Nat) : (l.drop a).getD j 0 = l.getD (a + j) 0 := by simp [List.getD_eq_getElem?_getD, List.getElem?_drop]
theorem refU_loop (l : List Int) (hb : isBytes l) (hm : l.length ≤ 4611686018427387904) (a w : Nat) (hw : w ≤ 4) (hf : a + w ≤ l.length) (d : Nat) : ∀ (j k : Nat), j + d = w → d < k →
    calamusref02_U.l0 k l (a : Int) (w : Int) (pre (l.drop a) j) (((a + j : Nat)) : Int) = some (pre (l.drop a) w, 0) := by
  induction d with
  | zero =>
    intro j k hj hk
    obtain ⟨k, rfl⟩ : ∃ m, k = m + 1 := ⟨k - 1, by omega⟩
    obtain rfl : j = w := by omega
    simp only [calamusref02_U.l0]
    rw [IntWalk.wrap64_in _ ⟨by omega, by omega⟩, if_neg (by omega)]
  | succ d ih =>
    intro j k hj hk
    obtain ⟨k, rfl⟩ : ∃ m, k = m + 1 := ⟨k - 1, by omega⟩
    simp only [calamusref02_U.l0]
    have hp := pre_bd (l.drop a) (hb.drop a) j (by rw [List.length_drop]; omega)
    have h256 : (256 : Int) ^ j ≤ 256 ^ 3 := by
      have : j = 0 ∨ j = 1 ∨ j = 2 ∨ j = 3 := by omega
      rcases this with rfl | rfl | rfl | rfl <;> decide
    have hg := hb.get (a + j)
    rw [IntWalk.wrap64_in ((a : Int) + w) ⟨by omega, by omega⟩, if_pos (by omega), if_pos (by omega), if_pos (by omega), rd_nat]
    rw [IntWalk.wrap64_in (256 * _) ⟨by omega, by omega⟩, IntWalk.wrap64_in (l.getD (a + j) 0) ⟨by omega, by omega⟩, IntWalk.wrap64_in _ ⟨by omega, by omega⟩, IntWalk.wrap64_in _ ⟨by omega, by omega⟩]
    have := ih (j + 1) k (by omega) (by omega)
    rw [← this, pre_succ _ _ (by rw [List.length_drop]; omega), getD_drop, show ((a + (j + 1) : Nat) : Int) = ((a + j : Nat) : Int) + 1 by omega, Int.mul_comm 256]
theorem refU_eq (l : List Int) (hb : isBytes l) (hm : l.length ≤ 4611686018427387904) (a1 a2 : Int) (h1 : inI a1) (h2 : inI a2) (k : Nat) (hk : 8 ≤ k) : calamusref02_U.f k l a1 a2 = be_U.f l a1 a2 := by
  unfold be_U.f calamusref02_U.f
  rw [if_pos (show isBytes l ∧ inI a1 ∧ inI a2 from ⟨hb, h1, h2⟩)]
  obtain ⟨k, rfl⟩ : ∃ m, k = m + 1 := ⟨k - 1, by omega⟩
  simp only [calamusref02_U.j0]
  by_cases c1 : a2 < 1
  · rw [if_pos c1, if_pos (show a2 < 1 ∨ a2 > 4 from .inl c1)]; rfl
  · rw [if_neg c1]
    by_cases c2 : a2 > 4
    · rw [if_pos (show decide (a2 > 4) = true by simpa using c2), if_pos (show a2 < 1 ∨ a2 > 4 from .inr c2)]
    · rw [if_neg (show ¬ decide (a2 > 4) = true by simpa using c2), if_neg (show ¬ (a2 < 1 ∨ a2 > 4) by omega), refthere_eq l a1 a2 (by omega) h1 h2]
      simp only [Option.bind_some]
      by_cases c3 : 0 ≤ a1 ∧ a1 + a2 ≤ l.length
      · rw [if_pos (decide_eq_true (show 0 ≤ a1 ∧ 0 ≤ a2 ∧ a1 + a2 ≤ (l.length : Int) by omega)), if_pos c3]
        obtain ⟨a, rfl⟩ := Int.eq_ofNat_of_zero_le c3.1
        obtain ⟨w, rfl⟩ := Int.eq_ofNat_of_zero_le (show 0 ≤ a2 by omega)
        have := refU_loop l hb hm a w (by omega) (by omega) w 0 k (by omega) (by omega)
        rw [pre_zero, Nat.add_zero] at this
        exact this
      · rw [if_neg (show ¬ decide (0 ≤ a1 ∧ 0 ≤ a2 ∧ a1 + a2 ≤ (l.length : Int)) = true by simp; omega), if_neg c3]
/-- A number of w bytes, with its sign. -/
def sgnB (n : Int) (w : Nat) : Int := if 2 * n ≥ 256 ^ w then n - 256 ^ w else n
theorem shifts_eq (n w : Int) (hw : w = 1 ∨ w = 2 ∨ w = 3 ∨ w = 4) (h0 : 0 ≤ n) (h1 : n < 256 ^ w.toNat) : shr .i64 (shl .i64 n (wrap64 (64 - (wrap64 (8 * w))))) (wrap64 (64 - (wrap64 (8 * w)))) = sgnB n w.toNat := by
  have hW : ∀ x : Int, -100 ≤ x → x ≤ 100 → wrap64 x = x := fun x h1 h2 => IntWalk.wrap64_in x ⟨by omega, by omega⟩
  rcases hw with rfl | rfl | rfl | rfl <;> (rw [hW (8 * _) (by omega) (by omega), hW (64 - 8 * _) (by omega) (by omega)]; unfold shr shl sgnB; rw [IntKind.wrap_i64]; simp [IntKind.bits] at *; (repeat' split) <;> omega)
theorem beU_eq (l : List Int) (hb : isBytes l) (a1 a2 : Int) (h1 : inI a1) (h2 : inI a2) : be_U.f l a1 a2 = (if a2 < 1 ∨ a2 > 4 then some (0, 2) else if 0 ≤ a1 ∧ a1 + a2 ≤ l.length then some (pre (l.drop a1.toNat) a2.toNat, 0) else some (0, 3)) := by
  unfold be_U.f; rw [if_pos (show isBytes l ∧ inI a1 ∧ inI a2 from ⟨hb, h1, h2⟩)]
theorem pre_range (l : List Int) (hb : isBytes l) (a w : Int) (h0 : 0 ≤ a) (hw : 1 ≤ w) (hf : a + w ≤ l.length) : 0 ≤ pre (l.drop a.toNat) w.toNat ∧ pre (l.drop a.toNat) w.toNat < 256 ^ w.toNat :=
  pre_bd _ (hb.drop _) _ (by rw [List.length_drop]; omega)
theorem beS_eq (l : List Int) (hb : isBytes l) (a1 a2 : Int) (h1 : inI a1) (h2 : inI a2) : be_S.f l a1 a2 = (if a2 < 1 ∨ a2 > 4 then some (0, 2) else if 0 ≤ a1 ∧ a1 + a2 ≤ l.length then some (sgnB (pre (l.drop a1.toNat) a2.toNat) a2.toNat, 0) else some (0, 3)) := by
  unfold be_S.f
  rw [beU_eq l hb a1 a2 h1 h2]
  by_cases c1 : a2 < 1 ∨ a2 > 4
  · rw [if_pos c1, if_pos c1]; simp
  · rw [if_neg c1, if_neg c1]
    by_cases c2 : 0 ≤ a1 ∧ a1 + a2 ≤ l.length
    · rw [if_pos c2, if_pos c2]
      have hp := pre_range l hb a1 a2 c2.1 (by omega) c2.2
      have hw : a2 = 1 ∨ a2 = 2 ∨ a2 = 3 ∨ a2 = 4 := by omega
      simp only [Option.bind_some, if_true]
      rw [shifts_eq _ a2 hw hp.1 hp.2, IntWalk.wrap64_in (8 * a2) ⟨by omega, by omega⟩, IntWalk.wrap64_in _ ⟨by omega, by omega⟩, if_pos (by omega)]
    · rw [if_neg c2, if_neg c2]; simp
theorem refS_loop (w : Nat) (n : Int) (hw : w ≤ 4) (h0 : 0 ≤ n) (h1 : n < 256 ^ w) (d : Nat) : ∀ (i k : Nat), i + d = w → d < k → calamusref02_S.l0 k (w : Int) n (256 ^ i) (i : Int) = some (sgnB n w, 0) := by
  have hb4 : ∀ i : Nat, i ≤ 4 → (256 : Int) ^ i ≤ 4294967296 ∧ (1 : Int) ≤ 256 ^ i := by
    intro i hi
    have : i = 0 ∨ i = 1 ∨ i = 2 ∨ i = 3 ∨ i = 4 := by omega
    rcases this with rfl | rfl | rfl | rfl | rfl <;> decide
  induction d with
  | zero =>
    intro i k hi hk
    obtain ⟨k, rfl⟩ : ∃ m, k = m + 1 := ⟨k - 1, by omega⟩
    obtain rfl : i = w := by omega
    have := hb4 i hw
    simp only [calamusref02_S.l0]
    rw [if_neg (by omega), IntWalk.wrap64_in (2 * n) ⟨by omega, by omega⟩, IntWalk.wrap64_in (n - _) ⟨by omega, by omega⟩]
    unfold sgnB
    split <;> rfl
  | succ d ih =>
    intro i k hi hk
    obtain ⟨k, rfl⟩ : ∃ m, k = m + 1 := ⟨k - 1, by omega⟩
    have := hb4 i (by omega)
    simp only [calamusref02_S.l0]
    rw [if_pos (by omega), IntWalk.wrap64_in (_ * 256) ⟨by omega, by omega⟩, IntWalk.wrap64_in _ ⟨by omega, by omega⟩]
    exact ih (i + 1) k (by omega) (by omega)
theorem refS_eq (l : List Int) (hb : isBytes l) (hm : l.length ≤ 4611686018427387904) (a1 a2 : Int) (h1 : inI a1) (h2 : inI a2) (k : Nat) (hk : 8 ≤ k) : calamusref02_S.f k l a1 a2 = be_S.f l a1 a2 := by
  unfold calamusref02_S.f
  rw [refU_eq l hb hm a1 a2 h1 h2 k hk, beU_eq l hb a1 a2 h1 h2, beS_eq l hb a1 a2 h1 h2]
  by_cases c1 : a2 < 1 ∨ a2 > 4
  · rw [if_pos c1, if_pos c1]; simp
  · rw [if_neg c1, if_neg c1]
    by_cases c2 : 0 ≤ a1 ∧ a1 + a2 ≤ l.length
    · rw [if_pos c2, if_pos c2]
      have hp := pre_range l hb a1 a2 c2.1 (by omega) c2.2
      obtain ⟨w, rfl⟩ := Int.eq_ofNat_of_zero_le (show 0 ≤ a2 by omega)
      simp only [Option.bind_some, if_true]
      exact refS_loop w _ (by omega) hp.1 hp.2 w 0 k (by omega) (by omega)
    · rw [if_neg c2, if_neg c2]; simp
theorem widthB_mx (a : Int) : mx 0 (mn a 8) = (widthB a : Int) ∧ widthB a ≤ 8 := by
  unfold mx mn widthB
  (repeat' split) <;> omega
theorem bePut_eq (n a : Int) (h : inI n) (h2 : inI a) : be_Put.f n a = some (putB n (widthB a)) := by
  unfold be_Put.f; rw [if_pos (show inI n ∧ inI a from ⟨h, h2⟩)]
theorem emod_pow (n : Int) (k : Nat) : (n % 18446744073709551616) / 256 ^ k % 256 = n / 256 ^ k % 256 ∨ 8 ≤ k := by
  have : k = 0 ∨ k = 1 ∨ k = 2 ∨ k = 3 ∨ k = 4 ∨ k = 5 ∨ k = 6 ∨ k = 7 ∨ 8 ≤ k := by omega
  rcases this with rfl | rfl | rfl | rfl | rfl | rfl | rfl | rfl | h
  all_goals first | exact .inr h | (refine .inl ?_; simp; try omega)
theorem refPut_loop (n : Int) (W : Nat) (hW : W ≤ 8) (d : Nat) : ∀ (k m : Nat), d + m = W → d < k →
    calamusref02_Put.l0 k (List.replicate d 0 ++ putB n m) (n % 18446744073709551616 / 256 ^ m) ((d : Int) - 1) = some (putB n W) := by
  induction d with
  | zero =>
    intro k m hm hk
    obtain ⟨k, rfl⟩ : ∃ j, k = j + 1 := ⟨k - 1, by omega⟩
    obtain rfl : m = W := by omega
    simp only [calamusref02_Put.l0]
    rw [if_neg (by omega)]
    simp
  | succ d ih =>
    intro k m hm hk
    obtain ⟨k, rfl⟩ : ∃ j, k = j + 1 := ⟨k - 1, by omega⟩
    have hx0 : 0 ≤ n % 18446744073709551616 / 256 ^ m := Int.ediv_nonneg (by omega) (Int.pow_nonneg (by decide))
    have hx1 : n % 18446744073709551616 / 256 ^ m ≤ n % 18446744073709551616 := Int.ediv_le_self _ (by omega)
    simp only [calamusref02_Put.l0]
    rw [if_pos (by omega), if_pos (by omega), if_pos (by simp [putB_length]; omega), Int.tmod_eq_emod_of_nonneg hx0, Int.tdiv_eq_ediv_of_nonneg hx0, IntWalk.u64_in _ ⟨by omega, by omega⟩, IntWalk.wrap64_in _ ⟨by omega, by omega⟩]
    have e1 : n % 18446744073709551616 / 256 ^ m / 256 = n % 18446744073709551616 / 256 ^ (m + 1) := by rw [Int.pow_succ, Int.ediv_ediv_of_nonneg (Int.pow_nonneg (by decide))]
    have e2 : n % 18446744073709551616 / 256 ^ m % 256 % 256 = n / 256 ^ m % 256 := by
      rcases emod_pow n m with h | h
      · omega
      · omega
    have e3 := put_step n (d + 1 + m) m (by omega)
    rw [show d + 1 + m - m = d + 1 by omega, show d + 1 + m - 1 - m = d by omega, show d + 1 + m - (m + 1) = d by omega] at e3
    rw [e1, e2, show (((d + 1 : Nat) : Int) - 1).toNat = d by omega, e3, show ((d + 1 : Nat) : Int) - 1 - 1 = (d : Int) - 1 by omega]
    exact ih k (m + 1) (by omega) (by omega)
theorem refPut_eq (n a : Int) (h : inI n) (k : Nat) (hk : 9 ≤ k) : calamusref02_Put.f k n a = some (putB n (widthB a)) := by
  obtain ⟨h1, h2⟩ := widthB_mx a
  unfold calamusref02_Put.f
  rw [h1, if_pos (by omega), if_pos (by omega)]
  have := refPut_loop n (widthB a) h2 (widthB a) k 0 (by omega) (by omega)
  rw [show IntKind.u64.wrap n = n % 18446744073709551616 by simp [IntKind.wrap, IntKind.bits, IntKind.signed]]
  simpa [putB] using this

end Go.Proofs.Ytcclmaicdmogjaa.P

namespace Go.Proofs.Ytcclmaicdmogjaa.P
open Go.RowKit Go.Proofs.YtcclmaicdmogjaaW.PrintWords Go.Proofs.YtcclmaicdmogjaaW.PrintLast Go.Proofs.YtcclmaicdmogjaaW.PrintMore
set_option linter.unusedVariables false
set_option linter.unusedSimpArgs false

-- USES loca_Write loca_Long calamusref06_Write calamusref06_Long calamusref02_Ints
-- NEEDS be
theorem chk_iff (x : List Int) (i : Nat) : chk x i = true ↔ ∀ j, j < i → x.getD j 0 ≤ x.getD (j + 1) 0 := by
  induction i with
  | zero => simp [chk]
  | succ i ih =>
    simp only [chk, Bool.and_eq_true, decide_eq_true_eq, ih]
    constructor
    · rintro ⟨h1, h2⟩ j hj
      rcases Nat.lt_or_ge j i with h | h
      · exact h2 j h
      · obtain rfl : j = i := by omega
        exact h1
    · intro h
      exact ⟨h i (by omega), fun j hj => h j (by omega)⟩
theorem ord_iff (l : List Int) : ordB l = true ↔ ∀ j, j + 1 < l.length → l.getD j 0 ≤ l.getD (j + 1) 0 := by
  rw [ordB_chk, chk_iff]
  exact ⟨fun h j hj => h j (by omega), fun h j hj => h j (by omega)⟩
/-- A place that the reference refuses. -/
def badW (l : List Int) (j : Nat) : Prop := l.getD j 0 < 0 ∨ (0 < j ∧ l.getD j 0 < l.getD (j - 1) 0)
theorem nobad_iff (l : List Int) : (∀ j, j < l.length → ¬ badW l j) ↔ ¬ (ordB l = false ∨ l.getD 0 0 < 0) := by
  constructor
  · intro h hc
    rcases hc with hc | hc
    · have : ordB l = true := by
        rw [ord_iff]
        intro j hj
        have := h (j + 1) hj
        unfold badW at this
        simp only [Nat.add_sub_cancel] at this
        omega
      rw [this] at hc; cases hc
    · rcases Nat.eq_zero_or_pos l.length with h0 | h0
      · rw [List.eq_nil_of_length_eq_zero h0] at hc; simp at hc
      · exact h 0 h0 (.inl hc)
  · intro h j hj hb
    have ho : ordB l = true := by
      cases hh : ordB l with
      | true => rfl
      | false => exact absurd (.inl hh) h
    have h0 : 0 ≤ l.getD 0 0 := by
      rcases (show l.getD 0 0 < 0 ∨ 0 ≤ l.getD 0 0 by omega) with h' | h'
      · exact absurd (.inr h') h
      · exact h'
    rcases hb with hb | ⟨hp, hb⟩
    · have := ordB_nonneg l ho h0 (l.getD j 0) (by rw [List.getD_eq_getElem?_getD, List.getElem?_eq_getElem hj]; exact List.getElem_mem hj)
      omega
    · have := (ord_iff l).1 ho (j - 1) (by omega)
      rw [show j - 1 + 1 = j by omega] at this
      omega
theorem refW0_ok (l : List Int) (b : Bool) (hm : l.length ≤ 17592186043904) (d : Nat) : ∀ (i k : Nat), i + d = l.length → d < k → (∀ j, i ≤ j → j < l.length → ¬ badW l j) →
    calamusref06_Write.l0 k l b l (l.length : Int) (i : Int) = calamusref06_Write.l1 (k - d - 1) b [] l (l.length : Int) 0 := by
  induction d with
  | zero =>
    intro i k hi hk _
    obtain ⟨k, rfl⟩ : ∃ m, k = m + 1 := ⟨k - 1, by omega⟩
    simp only [calamusref06_Write.l0]
    rw [if_neg (by omega)]
    rfl
  | succ d ih =>
    intro i k hi hk hn
    obtain ⟨k, rfl⟩ : ∃ m, k = m + 1 := ⟨k - 1, by omega⟩
    have hb := hn i (by omega) (by omega)
    unfold badW at hb
    have e : k + 1 - (d + 1) - 1 = k - d - 1 := by omega
    simp only [calamusref06_Write.l0]
    rw [if_pos (by omega), if_pos (by omega), if_pos (by omega), rd_nat, if_neg (by omega), IntWalk.wrap64_in ((i : Int) + 1) ⟨by omega, by omega⟩, e, show (i : Int) + 1 = ((i + 1 : Nat) : Int) by omega]
    by_cases h0 : (i : Int) > 0
    · rw [if_pos h0, IntWalk.wrap64_in _ ⟨by omega, by omega⟩, if_pos (by omega), if_pos (by omega), show (i : Int) - 1 = ((i - 1 : Nat) : Int) by omega, rd_nat, if_neg (by omega)]
      exact ih (i + 1) k (by omega) (by omega) (fun j h1 h2 => hn j (by omega) h2)
    · rw [if_neg h0]
      exact ih (i + 1) k (by omega) (by omega) (fun j h1 h2 => hn j (by omega) h2)
theorem refW0_bad (l : List Int) (b : Bool) (hm : l.length ≤ 17592186043904) (d : Nat) : ∀ (i k : Nat), i + d = l.length → d < k → (∃ j, i ≤ j ∧ j < l.length ∧ badW l j) →
    calamusref06_Write.l0 k l b l (l.length : Int) (i : Int) = some ([], 12) := by
  induction d with
  | zero => intro i k hi hk ⟨j, h1, h2, _⟩; omega
  | succ d ih =>
    intro i k hi hk ⟨j, h1, h2, hb⟩
    obtain ⟨k, rfl⟩ : ∃ m, k = m + 1 := ⟨k - 1, by omega⟩
    simp only [calamusref06_Write.l0]
    rw [if_pos (by omega), if_pos (by omega), if_pos (by omega), rd_nat, IntWalk.wrap64_in ((i : Int) + 1) ⟨by omega, by omega⟩, show (i : Int) + 1 = ((i + 1 : Nat) : Int) by omega]
    by_cases hneg : l.getD i 0 < 0
    · rw [if_pos hneg]
    rw [if_neg hneg]
    by_cases h0 : (i : Int) > 0
    · rw [if_pos h0, IntWalk.wrap64_in _ ⟨by omega, by omega⟩, if_pos (by omega), if_pos (by omega), show (i : Int) - 1 = ((i - 1 : Nat) : Int) by omega, rd_nat]
      by_cases hlt : l.getD i 0 < l.getD (i - 1) 0
      · rw [if_pos hlt]
      · rw [if_neg hlt]
        refine ih (i + 1) k (by omega) (by omega) ⟨j, ?_, h2, hb⟩
        rcases Nat.lt_or_ge i j with h | h
        · omega
        · obtain rfl : j = i := by omega
          rcases hb with hb | ⟨_, hb⟩
          · exact absurd hb hneg
          · exact absurd hb hlt
    · rw [if_neg h0]
      refine ih (i + 1) k (by omega) (by omega) ⟨j, ?_, h2, hb⟩
      rcases Nat.lt_or_ge i j with h | h
      · omega
      · obtain rfl : j = i := by omega
        rcases hb with hb | ⟨hp, hb⟩
        · exact absurd hb hneg
        · omega
/-- What is asked of a place. -/
def pwB (b : Bool) : Int → Bool := if b = true then pw1 else pw2
theorem refPut4 (y : Int) (h0 : 0 ≤ y) (h1 : y ≤ 9223372036854775807) (k : Nat) (hk : 9 ≤ k) : calamusref02_Put.f k y 4 = some (encW true y) := by
  rw [refPut_eq y 4 ⟨by omega, by omega⟩ k hk, show widthB 4 = 4 by decide]; simp only [encW, if_true]
theorem refPut2 (y : Int) (h0 : 0 ≤ y) (h1 : y ≤ 9223372036854775807) (k : Nat) (hk : 9 ≤ k) : calamusref02_Put.f k (y / 2) 2 = some (encW false y) := by
  rw [refPut_eq (y / 2) 2 ⟨by omega, by omega⟩ k hk, show widthB 2 = 2 by decide]; simp only [encW, Bool.false_eq_true, if_false]
theorem refW1 (l : List Int) (b : Bool) (hm : l.length ≤ 17592186043904) (hn : ∀ x ∈ l, 0 ≤ x ∧ x ≤ 9223372036854775807) (d : Nat) : ∀ (i k : Nat) (acc : List Int), i + d = l.length → 2 * d + 12 < k → acc.length ≤ 4 * i →
    calamusref06_Write.l1 k b acc l (l.length : Int) (i : Int) = some (if (l.drop i).any (pwB b) = true then ([], 6) else (acc ++ flatW b (l.drop i), 0)) := by
  induction d with
  | zero =>
    intro i k acc hi hk _
    obtain ⟨k, rfl⟩ : ∃ m, k = m + 1 := ⟨k - 1, by omega⟩
    simp only [calamusref06_Write.l1]
    rw [if_neg (by omega), List.drop_eq_nil_of_le (by omega)]
    simp [flatW]
  | succ d ih =>
    intro i k acc hi hk hacc
    obtain ⟨k, rfl⟩ : ∃ m, k = m + 2 := ⟨k - 2, by omega⟩
    have hlt : i < l.length := by omega
    obtain ⟨hy0, hy1⟩ := hn (l.getD i 0) (by rw [List.getD_eq_getElem?_getD, List.getElem?_eq_getElem hlt]; exact List.getElem_mem hlt)
    have hdrop : l.drop i = l.getD i 0 :: l.drop (i + 1) := by
      rw [List.drop_eq_getElem_cons hlt, List.getD_eq_getElem?_getD, List.getElem?_eq_getElem hlt]; rfl
    rw [hdrop]
    generalize hy : l.getD i 0 = y at *
    simp only [List.any_cons, flatW, List.flatMap_cons]
    have hlen := encW_len b y
    simp only [calamusref06_Write.l1]
    rw [if_pos (by omega), if_pos (by omega), if_pos (by omega), rd_nat, hy]
    cases b with
    | true =>
      simp only [if_true, pwB, pw1]
      by_cases hbig : y > 4294967295
      · rw [if_pos hbig]
        simp only [calamusref06_Write.j2]
        simp [show (4294967295 : Int) < y by omega]
      · rw [if_neg hbig]
        simp only [calamusref06_Write.j2, Bool.false_eq_true, if_false, if_true]
        rw [refPut4 y hy0 hy1 k (by omega)]
        simp only [Option.bind_some]
        rw [if_pos (by omega), IntWalk.wrap64_in _ ⟨by omega, by omega⟩, show (i : Int) + 1 = ((i + 1 : Nat) : Int) by omega, ih (i + 1) k (acc ++ encW true y) (by omega) (by omega) (by rw [List.length_append]; omega)]
        simp only [pwB, if_true, pw1, decide_eq_false (show ¬ (4294967295 : Int) < y by omega), Bool.false_or, flatW, List.append_assoc]
    | false =>
      simp only [Bool.false_eq_true, if_false, pwB, pw2]
      rw [Int.tmod_eq_emod_of_nonneg hy0]
      by_cases hodd : y % 2 = 0
      · rw [if_pos hodd]
        by_cases hbig : y > 131070
        · simp only [calamusref06_Write.j2, decide_eq_true hbig]
          simp [show (131070 : Int) < y by omega]
        · simp only [calamusref06_Write.j2, decide_eq_false hbig, Bool.false_eq_true, if_false]
          rw [Int.tdiv_eq_ediv_of_nonneg hy0, IntWalk.wrap64_in (y / 2) ⟨by omega, by omega⟩, refPut2 y hy0 hy1 k (by omega)]
          simp only [Option.bind_some]
          rw [if_pos (by omega), IntWalk.wrap64_in _ ⟨by omega, by omega⟩, show (i : Int) + 1 = ((i + 1 : Nat) : Int) by omega, ih (i + 1) k (acc ++ encW false y) (by omega) (by omega) (by rw [List.length_append]; omega)]
          simp only [pwB, Bool.false_eq_true, if_false, pw2, decide_eq_false (show ¬ (y % 2 = 1 ∨ (131070 : Int) < y) by omega), Bool.false_or, flatW, List.append_assoc]
      · rw [if_neg hodd]
        simp only [calamusref06_Write.j2]
        simp [show y % 2 = 1 by omega]
theorem refW_eq (l : List Int) (b : Bool) (hm : l.length ≤ 17592186043904) (hn : ∀ x ∈ l, inI x) (k : Nat) (hk : 3 * l.length + 20 < k) : calamusref06_Write.f k l b = some (locaW l b) := by
  unfold calamusref06_Write.f locaW
  by_cases h : ordB l = false ∨ l.getD 0 0 < 0
  · rw [if_pos h]
    have : ∃ j, 0 ≤ j ∧ j < l.length ∧ badW l j := by
      refine Classical.byContradiction fun hc => ?_
      refine (nobad_iff l).1 (fun j hj hb => hc ⟨j, Nat.zero_le _, hj, hb⟩) h
    exact refW0_bad l b hm l.length 0 k (by omega) (by omega) this
  · rw [if_neg h]
    have hnb := (nobad_iff l).2 h
    have ho : ordB l = true := by
      cases hh : ordB l with
      | true => rfl
      | false => exact absurd (.inl hh) h
    have hn2 : ∀ x ∈ l, 0 ≤ x ∧ x ≤ 9223372036854775807 := fun x hx => ⟨ordB_nonneg l ho (by omega) x hx, (hn x hx).2⟩
    have e1 := refW0_ok l b hm l.length 0 k (by omega) (by omega) (fun j _ hj => hnb j hj)
    have e2 := refW1 l b hm hn2 l.length 0 (k - l.length - 1) [] (by omega) (by omega) (by simp)
    rw [show ((0 : Nat) : Int) = 0 from rfl] at e1 e2
    rw [e1, e2, List.drop_zero, List.nil_append]
    cases b <;> rfl
theorem locaWrite_eq (l : List Int) (b : Bool) (hm : l.length ≤ 17592186043904) (hn : ∀ x ∈ l, inI x) : loca_Write.f l b = some (locaW l b) := by
  unfold loca_Write.f; rw [if_pos ⟨hn, hm⟩]
theorem ints_loop (l m : List Int) (h : l = m) (hm : l.length ≤ 17592186044416) (d : Nat) : ∀ (i k : Nat), i + d = l.length → d < k → calamusref02_Ints.l0 k l m (l.length : Int) (i : Int) = some true := by
  subst h
  induction d with
  | zero =>
    intro i k hi hk
    obtain ⟨k, rfl⟩ : ∃ m, k = m + 1 := ⟨k - 1, by omega⟩
    simp only [calamusref02_Ints.l0]
    rw [if_neg (by omega)]
  | succ d ih =>
    intro i k hi hk
    obtain ⟨k, rfl⟩ : ∃ m, k = m + 1 := ⟨k - 1, by omega⟩
    simp only [calamusref02_Ints.l0]
    rw [if_pos (by omega), if_pos (by omega), if_pos (by omega), if_pos (by omega), if_pos True.intro, IntWalk.wrap64_in _ ⟨by omega, by omega⟩, show (i : Int) + 1 = ((i + 1 : Nat) : Int) by omega]
    exact ih (i + 1) k (by omega) (by omega)
theorem ints_refl (l : List Int) (hm : l.length ≤ 17592186044416) (k : Nat) (hk : l.length < k) : calamusref02_Ints.f k l l = some true := by
  unfold calamusref02_Ints.f
  rw [if_pos rfl]
  exact ints_loop l l rfl hm l.length 0 k (by omega) hk

end Go.Proofs.Ytcclmaicdmogjaa.P

namespace Go.Proofs.Ytcclmaicdmogjaa.P
open Go.RowKit Go.Proofs.YtcclmaicdmogjaaW.PrintWords Go.Proofs.YtcclmaicdmogjaaW.PrintLast Go.Proofs.YtcclmaicdmogjaaW.PrintMore
set_option linter.unusedVariables false
set_option linter.unusedSimpArgs false

-- USES loca_Read calamusref06_Read slices_IsSorted_int_int
-- NEEDS locaw
/-- The number of bytes of a place, and by what it counts. -/
def wdt (b : Bool) : Nat := if b = true then 4 else 2
def fac (b : Bool) : Int := if b = true then 1 else 2
theorem wdt_t : (wdt true : Int) = 4 := rfl
theorem wdt_f : (wdt false : Int) = 2 := rfl
theorem fac_t : fac true = 1 := rfl
theorem fac_f : fac false = 2 := rfl
/-- Place i of a table. -/
def plc (l : List Int) (b : Bool) (i : Nat) : Int := fac b * pre (l.drop (i * wdt b)) (wdt b)
def plcs (l : List Int) (b : Bool) (n : Nat) : List Int := (List.range n).map (plc l b)
theorem plcs_succ (l : List Int) (b : Bool) (n : Nat) : plcs l b (n + 1) = plcs l b n ++ [plc l b n] := by
  unfold plcs; rw [List.range_succ, List.map_append]; rfl
theorem plcs_length (l : List Int) (b : Bool) (n : Nat) : (plcs l b n).length = n := by simp [plcs]
theorem plcs_get (l : List Int) (b : Bool) (n i : Nat) (h : i < n) : (plcs l b n).getD i 0 = plc l b i := by
  simp [plcs, List.getD_eq_getElem?_getD, List.getElem?_map, List.getElem?_range, h]
theorem wdt_cases (b : Bool) : (b = true ∧ wdt b = 4 ∧ fac b = 1) ∨ (b = false ∧ wdt b = 2 ∧ fac b = 2) := by cases b <;> simp [wdt, fac]
theorem plc_range (l : List Int) (hb : isBytes l) (b : Bool) (i : Nat) (h : (i + 1) * wdt b ≤ l.length) : 0 ≤ pre (l.drop (i * wdt b)) (wdt b) ∧ pre (l.drop (i * wdt b)) (wdt b) ≤ 4294967295 ∧ 0 ≤ plc l b i ∧ plc l b i ≤ 4294967295 := by
  have hp := pre_bd (l.drop (i * wdt b)) (hb.drop _) (wdt b) (by rw [List.length_drop]; rw [Nat.add_mul] at h; omega)
  unfold plc
  cases b with
  | true =>
    simp only [wdt, fac, if_true] at *
    have : (256 : Int) ^ 4 = 4294967296 := by decide
    omega
  | false =>
    simp only [wdt, fac, Bool.false_eq_true, if_false] at *
    have : (256 : Int) ^ 2 = 65536 := by decide
    omega
/-- What a table loca tells. -/
def locaR (l : List Int) (b : Bool) (g : Int) : List Int × Int :=
  if g < 0 ∨ g > 1024 then ([], 2) else if (l.length : Int) < wdt b * (g + 1) then ([], 3) else if ordB (plcs l b (g + 1).toNat) = true then (plcs l b (g + 1).toNat, 0) else ([], 12)
theorem wdt_pos (b : Bool) : 1 ≤ wdt b ∧ wdt b ≤ 4 ∧ 1 ≤ fac b ∧ fac b ≤ 2 := by cases b <;> decide
theorem beU_at (l : List Int) (hb : isBytes l) (b : Bool) (i : Nat) (hi : i ≤ 1100) (h : (i + 1) * wdt b ≤ l.length) : be_U.f l ((i * wdt b : Nat) : Int) (wdt b : Int) = some (pre (l.drop (i * wdt b)) (wdt b), 0) := by
  obtain ⟨h1, h2, _⟩ := wdt_pos b
  have h3 : i * wdt b ≤ i * 4 := Nat.mul_le_mul_left _ h2
  rw [Nat.add_mul] at h
  rw [beU_eq l hb _ _ ⟨by omega, by omega⟩ ⟨by omega, by omega⟩, if_neg (by omega), if_pos (by omega)]
  rfl
theorem refU_at (l : List Int) (hb : isBytes l) (hm : l.length ≤ 140737488355328) (b : Bool) (i : Nat) (hi : i ≤ 1100) (h : (i + 1) * wdt b ≤ l.length) (k : Nat) (hk : 8 ≤ k) : calamusref02_U.f k l ((i * wdt b : Nat) : Int) (wdt b : Int) = some (pre (l.drop (i * wdt b)) (wdt b), 0) := by
  obtain ⟨h1, h2, _⟩ := wdt_pos b
  have h3 : i * wdt b ≤ i * 4 := Nat.mul_le_mul_left _ h2
  rw [refU_eq l hb (by omega) _ _ ⟨by omega, by omega⟩ ⟨by omega, by omega⟩ k hk, beU_at l hb b i hi h]
theorem locaR_loop (l : List Int) (hb : isBytes l) (b : Bool) (G : Nat) (hG : G ≤ 1025) (hl : G * wdt b ≤ l.length) (d : Nat) : ∀ (i k : Nat), i + d = G → d + G + 2 < k →
    loca_Read.l0 k l b (wdt b : Int) (plcs l b i) (G : Int) (i : Int) = some (if ordB (plcs l b G) = true then (plcs l b G, 0) else ([], 12)) := by
  obtain ⟨hw1, hw2, _⟩ := wdt_pos b
  induction d with
  | zero =>
    intro i k hi hk
    obtain ⟨k, rfl⟩ : ∃ m, k = m + 1 := ⟨k - 1, by omega⟩
    obtain rfl : i = G := by omega
    simp only [loca_Read.l0]
    rw [if_neg (by omega), issorted_eq _ (by rw [plcs_length]; omega) k (by rw [plcs_length]; omega)]
    simp only [Option.bind_some]
    split <;> rfl
  | succ d ih =>
    intro i k hi hk
    obtain ⟨k, rfl⟩ : ∃ m, k = m + 1 := ⟨k - 1, by omega⟩
    have hil : (i + 1) * wdt b ≤ l.length := Nat.le_trans (Nat.mul_le_mul_right _ (by omega)) hl
    have hr := plc_range l hb b i hil
    have h3 : i * wdt b ≤ i * 4 := Nat.mul_le_mul_left _ hw2
    have hcast : (i : Int) * (wdt b : Int) = ((i * wdt b : Nat) : Int) := by rw [Int.natCast_mul]
    simp only [loca_Read.l0]
    rw [if_pos (by omega), hcast, IntWalk.wrap64_in ((i * wdt b : Nat) : Int) ⟨by omega, by omega⟩, beU_at l hb b i (by omega) hil]
    simp only [Option.bind_some]
    have hnext := ih (i + 1) k (by omega) (by omega)
    rw [plcs_succ] at hnext
    rw [plcs_length, if_pos (show i < 17592186044416 by omega), if_pos (show i < 17592186044416 by omega), IntWalk.wrap64_in ((i : Int) + 1) ⟨by omega, by omega⟩, show (i : Int) + 1 = ((i + 1 : Nat) : Int) by omega]
    cases b with
    | true =>
      simp only [if_true]
      rw [← hnext]
      simp [plc, fac]
    | false =>
      simp only [Bool.false_eq_true, if_false]
      rw [← hnext, IntWalk.wrap64_in (_ * 2) ⟨by omega, by simp only [plc, fac, Bool.false_eq_true, if_false] at hr; omega⟩]
      simp [plc, fac, Int.mul_comm]
theorem locaRead_eq (l : List Int) (hb : isBytes l) (b : Bool) (g : Int) (hg : inI g) (k : Nat) (hk : 2100 < k) : loca_Read.f k l b g = some (locaR l b g) := by
  obtain ⟨k, rfl⟩ : ∃ m, k = m + 2 := ⟨k - 2, by omega⟩
  unfold loca_Read.f locaR
  simp only [loca_Read.j0]
  by_cases h1 : g < 0
  · rw [if_pos h1, if_pos (show g < 0 ∨ g > 1024 from .inl h1)]; simp only [if_true]
  rw [if_neg h1]
  by_cases h2 : g > 1024
  · rw [if_pos (show g < 0 ∨ g > 1024 from .inr h2)]; simp [h2]
  rw [if_neg (show ¬ (g < 0 ∨ g > 1024) by omega)]
  simp only [decide_eq_false h2, Bool.false_eq_true, if_false]
  obtain ⟨n, rfl⟩ := Int.eq_ofNat_of_zero_le (show 0 ≤ g by omega)
  have e : (if b = true then loca_Read.j1 (k + 1) l b (n : Int) 4 else loca_Read.j1 (k + 1) l b (n : Int) 2) = loca_Read.j1 (k + 1) l b (n : Int) (wdt b : Int) := by
    cases b with
    | true => rw [if_pos (show (true = true) from rfl), wdt_t]
    | false => rw [if_neg (show ¬ (false = true) by decide), wdt_f]
  rw [e]
  simp only [loca_Read.j1]
  obtain ⟨hw1, hw2, _⟩ := wdt_pos b
  have h3 : wdt b * (n + 1) ≤ 4 * (n + 1) := Nat.mul_le_mul_right _ hw2
  have hcast : (wdt b : Int) * ((n : Int) + 1) = ((wdt b * (n + 1) : Nat) : Int) := by rw [Int.natCast_mul]; rfl
  rw [IntWalk.wrap64_in ((n : Int) + 1) ⟨by omega, by omega⟩, hcast, IntWalk.wrap64_in _ ⟨by omega, by omega⟩]
  by_cases h4 : (l.length : Int) < ((wdt b * (n + 1) : Nat) : Int)
  · rw [if_pos h4, if_pos h4]
  · rw [if_neg h4, if_neg h4]
    have := locaR_loop l hb b (n + 1) (by omega) (by rw [Nat.mul_comm]; omega) (n + 1) 0 k (by omega) (by omega)
    rw [show plcs l b 0 = [] from rfl, show ((n + 1 : Nat) : Int) = (n : Int) + 1 from rfl, show ((0 : Nat) : Int) = 0 from rfl] at this
    rw [this, show ((n : Int) + 1).toNat = n + 1 from rfl]
theorem refR_loop (l : List Int) (hb : isBytes l) (hm : l.length ≤ 140737488355328) (b : Bool) (g : Nat) (hg : g ≤ 1024) (hl : (g + 1) * wdt b ≤ l.length) (d : Nat) : ∀ (i k : Nat), i + d = g + 1 → d + 12 < k → (∀ j, j + 1 < i → plc l b j ≤ plc l b (j + 1)) →
    calamusref06_Read.l0 k l (g : Int) (wdt b : Int) (fac b) (plcs l b i) (i : Int) = some (if ordB (plcs l b (g + 1)) = true then (plcs l b (g + 1), 0) else ([], 12)) := by
  obtain ⟨hw1, hw2, _⟩ := wdt_pos b
  induction d with
  | zero =>
    intro i k hi hk hord
    obtain ⟨k, rfl⟩ : ∃ m, k = m + 1 := ⟨k - 1, by omega⟩
    obtain rfl : i = g + 1 := by omega
    simp only [calamusref06_Read.l0]
    rw [if_neg (by omega), if_pos]
    rw [ord_iff]
    intro j hj
    rw [plcs_length] at hj
    rw [plcs_get _ _ _ _ (by omega), plcs_get _ _ _ _ hj]
    exact hord j hj
  | succ d ih =>
    intro i k hi hk hord
    obtain ⟨k, rfl⟩ : ∃ m, k = m + 1 := ⟨k - 1, by omega⟩
    have hil : (i + 1) * wdt b ≤ l.length := Nat.le_trans (Nat.mul_le_mul_right _ (by omega)) hl
    have hr := plc_range l hb b i hil
    have h3 : i * wdt b ≤ i * 4 := Nat.mul_le_mul_left _ hw2
    have hcast : (wdt b : Int) * (i : Int) = ((i * wdt b : Nat) : Int) := by rw [Int.natCast_mul, Int.mul_comm]
    simp only [calamusref06_Read.l0]
    rw [if_pos (by omega), hcast, IntWalk.wrap64_in ((i * wdt b : Nat) : Int) ⟨by omega, by omega⟩, refU_at l hb hm b i (by omega) hil k (by omega)]
    simp only [Option.bind_some]
    have hplc : fac b * pre (l.drop (i * wdt b)) (wdt b) = plc l b i := rfl
    rw [hplc, IntWalk.wrap64_in (plc l b i) ⟨by omega, by omega⟩, plcs_length, if_pos (show i < 17592186044416 by omega), IntWalk.wrap64_in ((i : Int) + 1) ⟨by omega, by omega⟩, ← plcs_succ, show (i : Int) + 1 = ((i + 1 : Nat) : Int) from rfl]
    by_cases h0 : (i : Int) > 0
    · rw [if_pos h0, IntWalk.wrap64_in ((i : Int) - 1) ⟨by omega, by omega⟩, if_pos (by omega), if_pos (by omega), show (i : Int) - 1 = ((i - 1 : Nat) : Int) by omega, rd_nat, plcs_get _ _ _ _ (by omega)]
      by_cases hlt : plc l b i < plc l b (i - 1)
      · rw [if_pos hlt, if_neg]
        intro ho
        have := (ord_iff _).1 ho (i - 1) (by rw [plcs_length]; omega)
        rw [plcs_get _ _ _ _ (by omega), plcs_get _ _ _ _ (by omega), show i - 1 + 1 = i by omega] at this
        omega
      · rw [if_neg hlt]
        refine ih (i + 1) k (by omega) (by omega) (fun j hj => ?_)
        rcases Nat.lt_or_ge (j + 1) i with h | h
        · exact hord j h
        · have e1 : j = i - 1 := by omega
          have e2 : j + 1 = i := by omega
          rw [e2, e1]; omega
    · rw [if_neg h0]
      exact ih (i + 1) k (by omega) (by omega) (fun j hj => by omega)
theorem refRead_eq (l : List Int) (hb : isBytes l) (hm : l.length ≤ 140737488355328) (b : Bool) (g : Int) (hg : inI g) (k : Nat) (hk : 2100 < k) : calamusref06_Read.f k l b g = some (locaR l b g) := by
  obtain ⟨k, rfl⟩ : ∃ m, k = m + 2 := ⟨k - 2, by omega⟩
  unfold calamusref06_Read.f locaR
  simp only [calamusref06_Read.j0]
  by_cases h1 : g < 0
  · rw [if_pos h1, if_pos (show g < 0 ∨ g > 1024 from .inl h1)]; simp only [if_true]
  rw [if_neg h1]
  by_cases h2 : g > 1024
  · rw [if_pos (show g < 0 ∨ g > 1024 from .inr h2)]; simp [h2]
  rw [if_neg (show ¬ (g < 0 ∨ g > 1024) by omega)]
  simp only [decide_eq_false h2, Bool.false_eq_true, if_false]
  obtain ⟨n, rfl⟩ := Int.eq_ofNat_of_zero_le (show 0 ≤ g by omega)
  have e : (if b = true then calamusref06_Read.j1 (k + 1) l (n : Int) 4 1 else calamusref06_Read.j1 (k + 1) l (n : Int) 2 2) = calamusref06_Read.j1 (k + 1) l (n : Int) (wdt b : Int) (fac b) := by
    cases b with
    | true => rw [if_pos (show (true = true) from rfl), wdt_t, fac_t]
    | false => rw [if_neg (show ¬ (false = true) by decide), wdt_f, fac_f]
  rw [e]
  simp only [calamusref06_Read.j1]
  obtain ⟨hw1, hw2, _⟩ := wdt_pos b
  have h3 : wdt b * (n + 1) ≤ 4 * (n + 1) := Nat.mul_le_mul_right _ hw2
  have hcast : (wdt b : Int) * ((n : Int) + 1) = ((wdt b * (n + 1) : Nat) : Int) := by rw [Int.natCast_mul]; rfl
  rw [IntWalk.wrap64_in ((n : Int) + 1) ⟨by omega, by omega⟩, hcast, IntWalk.wrap64_in _ ⟨by omega, by omega⟩]
  by_cases h4 : (l.length : Int) < ((wdt b * (n + 1) : Nat) : Int)
  · rw [if_pos h4, if_pos h4]
  · rw [if_neg h4, if_neg h4]
    have := refR_loop l hb hm b n (by omega) (by rw [Nat.mul_comm]; omega) (n + 1) 0 k (by omega) (by omega) (fun j hj => by omega)
    rw [show plcs l b 0 = [] from rfl, show ((0 : Nat) : Int) = 0 from rfl] at this
    rw [this, show ((n : Int) + 1).toNat = n + 1 from rfl]

end Go.Proofs.Ytcclmaicdmogjaa.P

namespace Go.Proofs.Ytcclmaicdmogjaa.P
open Go.RowKit Go.Proofs.YtcclmaicdmogjaaW.PrintWords Go.Proofs.YtcclmaicdmogjaaW.PrintLast Go.Proofs.YtcclmaicdmogjaaW.PrintMore
set_option linter.unusedVariables false
set_option linter.unusedSimpArgs false

-- USES calamuslaw06_alive
theorem alive06_60 : calamuslaw06_alive.f 60 = some true := by decide +kernel
theorem alive06_all : ∀ k, 60 ≤ k → calamuslaw06_alive.f k = some true := by
  intro k hk
  obtain ⟨d, rfl⟩ : ∃ d, k = 60 + d := ⟨k - 60, by omega⟩
  induction d with
  | zero => exact alive06_60
  | succ d ih => exact calamuslaw06_alive.mono (60 + d) _ (ih (by omega))

end Go.Proofs.Ytcclmaicdmogjaa.P

/- where glyphs lie by any bytes, or the error, is the document's, at every bytes, either width and every number of glyphs; the bytes stay. -/
namespace Go.Proofs.Ytcclmaicdmogjaa.P
open Go.RowKit Go.Proofs.YtcclmaicdmogjaaW.PrintWords Go.Proofs.YtcclmaicdmogjaaW.PrintLast Go.Proofs.YtcclmaicdmogjaaW.PrintMore
set_option linter.unusedVariables false
set_option linter.unusedSimpArgs false


end Go.Proofs.Ytcclmaicdmogjaa.P
namespace Go.Proofs.Ytcclmaicdmogjaa.Pure
open Go.RowKit Go.Proofs.Ytcclmaicdmogjaa.P Go.Proofs.YtcclmaicdmogjaaW.PrintWords Go.Proofs.YtcclmaicdmogjaaW.PrintLast Go.Proofs.YtcclmaicdmogjaaW.PrintMore
theorem LocaReads : calamuslaw06_LocaReads.Pure := by
  intro l b g hm hl hw hg
  have hb := bytes_of_wf hw
  have hg' : inI g := wf_i64_out hg
  have hll : l.length ≤ 140737488351232 := by omega
  refine ⟨2200, ?_⟩
  unfold calamuslaw06_LocaReads.f
  rw [alive06_all _ (by omega)]
  simp only [Option.bind_some, if_true]
  rw [copy_eq l (by omega)]
  simp only [Option.bind_some]
  rw [locaRead_eq l hb b g hg' _ (by omega), refRead_eq l hb (by omega) b g hg' _ (by omega)]
  simp only [Option.bind_some, if_true, same_refl]
  have hlen : (locaR l b g).1.length ≤ 1025 := by
    unfold locaR
    (repeat' split) <;> simp [plcs_length] <;> omega
  rw [ints_refl _ (by omega) _ (by omega)]
  rfl
end Go.Proofs.Ytcclmaicdmogjaa.Pure
