/- Part 3 of the proof of the law LocaPuts: The law LocaPuts. -/
import Derived.Test.YtcclmaicdmogjaaCLocaPuts0
import Derived.Test.YtcclmaicdmogjaaCLocaPuts1
namespace Go.Proofs.Ytcclmaicdmogjaa.P
open Go.RowKit Go.Proofs.YtcclmaicdmogjaaW.PrintWords Go.Proofs.YtcclmaicdmogjaaW.PrintLast Go.Proofs.YtcclmaicdmogjaaW.PrintMore
set_option linter.unusedVariables false
set_option linter.unusedSimpArgs false

-- USES be_U be_S be_Put be_there calamusref02_U calamusref02_S calamusref02_There calamusref02_Put
-- NEEDS gen
theorem there_eq (l0 : List Int) (a1 a2 : Int) (hm : l0.length ≤ 9223372036854775807) (h1 : inI a1) (h2 : inI a2) : be_there.f l0 a1 a2 = some (decide (0 ≤ a1 ∧ 0 ≤ a2 ∧ a1 + a2 ≤ l0.length)) := by
  unfold inI at h1 h2
  unfold be_there.f
  by_cases c1 : a1 ≥ 0
  · rw [if_pos c1]
    by_cases c2 : a2 ≥ 0
    · rw [if_pos c2]
      by_cases c3 : a1 ≤ (l0.length : Int)
      · rw [if_pos c3, IntWalk.wrap64_in _ ⟨by omega, by omega⟩]
        congr 1
        rw [decide_eq_decide]; omega
      · rw [if_neg c3]; simp; omega
    · rw [if_neg c2]; simp; omega
  · rw [if_neg c1]; simp; omega
theorem refthere_eq (l0 : List Int) (a1 a2 : Int) (hm : l0.length ≤ 9223372036854775807) (h1 : inI a1) (h2 : inI a2) : calamusref02_There.f l0 a1 a2 = some (decide (0 ≤ a1 ∧ 0 ≤ a2 ∧ a1 + a2 ≤ l0.length)) := there_eq l0 a1 a2 hm h1 h2
theorem rd_nat (l : List Int) (i : Nat) : rd l (i : Int) = l.getD i 0 := rfl
theorem getD_drop (l : List Int) (a j : Nat) : (l.drop a).getD j 0 = l.getD (a + j) 0 := by simp [List.getD_eq_getElem?_getD, List.getElem?_drop]
theorem refU_loop (l : List Int) (hb : isBytes l) (hm : l.length ≤ 4611686018427387904) (a w : Nat) (hw : w ≤ 4) (hf : a + w ≤ l.length) (d : Nat) : ∀ (j k : Nat), j + d = w → d < k →
    calamusref02_U.l0 k l (a : Int) (w : Int) (pre (l.drop a) j) (((a + j : Nat)) : Int) = some (pre (l.drop a) w, 0) := by
  induction d with
  | zero =>
    intro j k hj hk
    obtain ⟨k, rfl⟩ : ∃ m, k = m + 1 := ⟨k - 1, by omega⟩
    obtain rfl : j = w := by omega
    simp only [calamusref02_U.l0]
    rw [IntWalk.wrap64_in _ ⟨by omega, by omega⟩, if_neg (by omega)]
  | succ d ih =>
    intro j k hj hk
    obtain ⟨k, rfl⟩ : ∃ m, k = m + 1 := ⟨k - 1, by omega⟩
    simp only [calamusref02_U.l0]
    have hp := pre_bd (l.drop a) (hb.drop a) j (by rw [List.length_drop]; omega)
    have h256 : (256 : Int) ^ j ≤ 256 ^ 3 := by
      have : j = 0 ∨ j = 1 ∨ j = 2 ∨ j = 3 := by omega
      rcases this with rfl | rfl | rfl | rfl <;> decide
    have hg := hb.get (a + j)
    rw [IntWalk.wrap64_in ((a : Int) + w) ⟨by omega, by omega⟩, if_pos (by omega), if_pos (by omega), if_pos (by omega), rd_nat]
    rw [IntWalk.wrap64_in (256 * _) ⟨by omega, by omega⟩, IntWalk.wrap64_in (l.getD (a + j) 0) ⟨by omega, by omega⟩, IntWalk.wrap64_in _ ⟨by omega, by omega⟩, IntWalk.wrap64_in _ ⟨by omega, by omega⟩]
    have := ih (j + 1) k (by omega) (by omega)
    rw [← this, pre_succ _ _ (by rw [List.length_drop]; omega), getD_drop, show ((a + (j + 1) : Nat) : Int) = ((a + j : Nat) : Int) + 1 by omega, Int.mul_comm 256]
theorem refU_eq (l : List Int) (hb : isBytes l) (hm : l.length ≤ 4611686018427387904) (a1 a2 : Int) (h1 : inI a1) (h2 : inI a2) (k : Nat) (hk : 8 ≤ k) : calamusref02_U.f k l a1 a2 = be_U.f l a1 a2 := by
  unfold be_U.f calamusref02_U.f
  rw [if_pos (show isBytes l ∧ inI a1 ∧ inI a2 from ⟨hb, h1, h2⟩)]
  obtain ⟨k, rfl⟩ : ∃ m, k = m + 1 := ⟨k - 1, by omega⟩
  simp only [calamusref02_U.j0]
  by_cases c1 : a2 < 1
  · rw [if_pos c1, if_pos (show a2 < 1 ∨ a2 > 4 from .inl c1)]; rfl
  · rw [if_neg c1]
    by_cases c2 : a2 > 4
    · rw [if_pos (show decide (a2 > 4) = true by simpa using c2), if_pos (show a2 < 1 ∨ a2 > 4 from .inr c2)]
    · rw [if_neg (show ¬ decide (a2 > 4) = true by simpa using c2), if_neg (show ¬ (a2 < 1 ∨ a2 > 4) by omega), refthere_eq l a1 a2 (by omega) h1 h2]
      simp only [Option.bind_some]
      by_cases c3 : 0 ≤ a1 ∧ a1 + a2 ≤ l.length
      · rw [if_pos (decide_eq_true (show 0 ≤ a1 ∧ 0 ≤ a2 ∧ a1 + a2 ≤ (l.length : Int) by omega)), if_pos c3]
        obtain ⟨a, rfl⟩ := Int.eq_ofNat_of_zero_le c3.1
        obtain ⟨w, rfl⟩ := Int.eq_ofNat_of_zero_le (show 0 ≤ a2 by omega)
        have := refU_loop l hb hm a w (by omega) (by omega) w 0 k (by omega) (by omega)
        rw [pre_zero, Nat.add_zero] at this
        exact this
      · rw [if_neg (show ¬ decide (0 ≤ a1 ∧ 0 ≤ a2 ∧ a1 + a2 ≤ (l.length : Int)) = true by simp; omega), if_neg c3]
/-- A number of w bytes, with its sign. -/
def sgnB (n : Int) (w : Nat) : Int := if 2 * n ≥ 256 ^ w then n - 256 ^ w else n
theorem shifts_eq (n w : Int) (hw : w = 1 ∨ w = 2 ∨ w = 3 ∨ w = 4) (h0 : 0 ≤ n) (h1 : n < 256 ^ w.toNat) : shr .i64 (shl .i64 n (wrap64 (64 - (wrap64 (8 * w))))) (wrap64 (64 - (wrap64 (8 * w)))) = sgnB n w.toNat := by
  have hW : ∀ x : Int, -100 ≤ x → x ≤ 100 → wrap64 x = x := fun x h1 h2 => IntWalk.wrap64_in x ⟨by omega, by omega⟩
  rcases hw with rfl | rfl | rfl | rfl <;> (rw [hW (8 * _) (by omega) (by omega), hW (64 - 8 * _) (by omega) (by omega)]; unfold shr shl sgnB; rw [IntKind.wrap_i64]; simp [IntKind.bits] at *; (repeat' split) <;> omega)
theorem beU_eq (l : List Int) (hb : isBytes l) (a1 a2 : Int) (h1 : inI a1) (h2 : inI a2) : be_U.f l a1 a2 = (if a2 < 1 ∨ a2 > 4 then some (0, 2) else if 0 ≤ a1 ∧ a1 + a2 ≤ l.length then some (pre (l.drop a1.toNat) a2.toNat, 0) else some (0, 3)) := by
  unfold be_U.f; rw [if_pos (show isBytes l ∧ inI a1 ∧ inI a2 from ⟨hb, h1, h2⟩)]
theorem pre_range (l : List Int) (hb : isBytes l) (a w : Int) (h0 : 0 ≤ a) (hw : 1 ≤ w) (hf : a + w ≤ l.length) : 0 ≤ pre (l.drop a.toNat) w.toNat ∧ pre (l.drop a.toNat) w.toNat < 256 ^ w.toNat :=
  pre_bd _ (hb.drop _) _ (by rw [List.length_drop]; omega)
theorem beS_eq (l : List Int) (hb : isBytes l) (a1 a2 : Int) (h1 : inI a1) (h2 : inI a2) : be_S.f l a1 a2 = (if a2 < 1 ∨ a2 > 4 then some (0, 2) else if 0 ≤ a1 ∧ a1 + a2 ≤ l.length then some (sgnB (pre (l.drop a1.toNat) a2.toNat) a2.toNat, 0) else some (0, 3)) := by
  unfold be_S.f
  rw [beU_eq l hb a1 a2 h1 h2]
  by_cases c1 : a2 < 1 ∨ a2 > 4
  · rw [if_pos c1, if_pos c1]; simp
  · rw [if_neg c1, if_neg c1]
    by_cases c2 : 0 ≤ a1 ∧ a1 + a2 ≤ l.length
    · rw [if_pos c2, if_pos c2]
      have hp := pre_range l hb a1 a2 c2.1 (by omega) c2.2
      have hw : a2 = 1 ∨ a2 = 2 ∨ a2 = 3 ∨ a2 = 4 := by omega
      simp only [Option.bind_some, if_true]
      rw [shifts_eq _ a2 hw hp.1 hp.2, IntWalk.wrap64_in (8 * a2) ⟨by omega, by omega⟩, IntWalk.wrap64_in _ ⟨by omega, by omega⟩, if_pos (by omega)]
    · rw [if_neg c2, if_neg c2]; simp
theorem refS_loop (w : Nat) (n : Int) (hw : w ≤ 4) (h0 : 0 ≤ n) (h1 : n < 256 ^ w) (d : Nat) : ∀ (i k : Nat), i + d = w → d < k → calamusref02_S.l0 k (w : Int) n (256 ^ i) (i : Int) = some (sgnB n w, 0) := by
  have hb4 : ∀ i : Nat, i ≤ 4 → (256 : Int) ^ i ≤ 4294967296 ∧ (1 : Int) ≤ 256 ^ i := by
    intro i hi
    have : i = 0 ∨ i = 1 ∨ i = 2 ∨ i = 3 ∨ i = 4 := by omega
    rcases this with rfl | rfl | rfl | rfl | rfl <;> decide
  induction d with
  | zero =>
    intro i k hi hk
    obtain ⟨k, rfl⟩ : ∃ m, k = m + 1 := ⟨k - 1, by omega⟩
    obtain rfl : i = w := by omega
    have := hb4 i hw
    simp only [calamusref02_S.l0]
    rw [if_neg (by omega), IntWalk.wrap64_in (2 * n) ⟨by omega, by omega⟩, IntWalk.wrap64_in (n - _) ⟨by omega, by omega⟩]
    unfold sgnB
    split <;> rfl
  | succ d ih =>
    intro i k hi hk
    obtain ⟨k, rfl⟩ : ∃ m, k = m + 1 := ⟨k - 1, by omega⟩
    have := hb4 i (by omega)
    simp only [calamusref02_S.l0]
    rw [if_pos (by omega), IntWalk.wrap64_in (_ * 256) ⟨by omega, by omega⟩, IntWalk.wrap64_in _ ⟨by omega, by omega⟩]
    exact ih (i + 1) k (by omega) (by omega)
theorem refS_eq (l : List Int) (hb : isBytes l) (hm : l.length ≤ 4611686018427387904) (a1 a2 : Int) (h1 : inI a1) (h2 : inI a2) (k : Nat) (hk : 8 ≤ k) : calamusref02_S.f k l a1 a2 = be_S.f l a1 a2 := by
  unfold calamusref02_S.f
  rw [refU_eq l hb hm a1 a2 h1 h2 k hk, beU_eq l hb a1 a2 h1 h2, beS_eq l hb a1 a2 h1 h2]
  by_cases c1 : a2 < 1 ∨ a2 > 4
  · rw [if_pos c1, if_pos c1]; simp
  · rw [if_neg c1, if_neg c1]
    by_cases c2 : 0 ≤ a1 ∧ a1 + a2 ≤ l.length
    · rw [if_pos c2, if_pos c2]
      have hp := pre_range l hb a1 a2 c2.1 (by omega) c2.2
      obtain ⟨w, rfl⟩ := Int.eq_ofNat_of_zero_le (show 0 ≤ a2 by omega)
      simp only [Option.bind_some, if_true]
      exact refS_loop w _ (by omega) hp.1 hp.2 w 0 k (by omega) (by omega)
    · rw [if_neg c2, if_neg c2]; simp
theorem widthB_mx (a : Int) : mx 0 (mn a 8) = (widthB a : Int) ∧ widthB a ≤ 8 := by
  unfold mx mn widthB
  (repeat' split) <;> omega
theorem bePut_eq (n a : Int) (h : inI n) (h2 : inI a) : be_Put.f n a = some (putB n (widthB a)) := by
  unfold be_Put.f; rw [if_pos (show inI n ∧ inI a from ⟨h, h2⟩)]
theorem emod_pow (n : Int) (k : Nat) : (n % 18446744073709551616) / 256 ^ k % 256 = n / 256 ^ k % 256 ∨ 8 ≤ k := by
  have : k = 0 ∨ k = 1 ∨ k = 2 ∨ k = 3 ∨ k = 4 ∨ k = 5 ∨ k = 6 ∨ k = 7 ∨ 8 ≤ k := by omega
  rcases this with rfl | rfl | rfl | rfl | rfl | rfl | rfl | rfl | h
  all_goals first | exact .inr h | (refine .inl ?_; simp; try omega)
theorem refPut_loop (n : Int) (W : Nat) (hW : W ≤ 8) (d : Nat) : ∀ (k m : Nat), d + m = W → d < k →
    calamusref02_Put.l0 k (List.replicate d 0 ++ putB n m) (n % 18446744073709551616 / 256 ^ m) ((d : Int) - 1) = some (putB n W) := by
  induction d with
  | zero =>
    intro k m hm hk
    obtain ⟨k, rfl⟩ : ∃ j, k = j + 1 := ⟨k - 1, by omega⟩
    obtain rfl : m = W := by omega
    simp only [calamusref02_Put.l0]
    rw [if_neg (by omega)]
    simp
  | succ d ih =>
    intro k m hm hk
    obtain ⟨k, rfl⟩ : ∃ j, k = j + 1 := ⟨k - 1, by omega⟩
    have hx0 : 0 ≤ n % 18446744073709551616 / 256 ^ m := Int.ediv_nonneg (by omega) (Int.pow_nonneg (by decide))
    have hx1 : n % 18446744073709551616 / 256 ^ m ≤ n % 18446744073709551616 := Int.ediv_le_self _ (by omega)
    simp only [calamusref02_Put.l0]
    rw [if_pos (by omega), if_pos (by omega), if_pos (by simp [putB_length]; omega), Int.tmod_eq_emod_of_nonneg hx0, Int.tdiv_eq_ediv_of_nonneg hx0, IntWalk.u64_in _ ⟨by omega, by omega⟩, IntWalk.wrap64_in _ ⟨by omega, by omega⟩]
    have e1 : n % 18446744073709551616 / 256 ^ m / 256 = n % 18446744073709551616 / 256 ^ (m + 1) := by rw [Int.pow_succ, Int.ediv_ediv_of_nonneg (Int.pow_nonneg (by decide))]
    have e2 : n % 18446744073709551616 / 256 ^ m % 256 % 256 = n / 256 ^ m % 256 := by
      rcases emod_pow n m with h | h
      · omega
      · omega
    have e3 := put_step n (d + 1 + m) m (by omega)
    rw [show d + 1 + m - m = d + 1 by omega, show d + 1 + m - 1 - m = d by omega, show d + 1 + m - (m + 1) = d by omega] at e3
    rw [e1, e2, show (((d + 1 : Nat) : Int) - 1).toNat = d by omega, e3, show ((d + 1 : Nat) : Int) - 1 - 1 = (d : Int) - 1 by omega]
    exact ih k (m + 1) (by omega) (by omega)
theorem refPut_eq (n a : Int) (h : inI n) (k : Nat) (hk : 9 ≤ k) : calamusref02_Put.f k n a = some (putB n (widthB a)) := by
  obtain ⟨h1, h2⟩ := widthB_mx a
  unfold calamusref02_Put.f
  rw [h1, if_pos (by omega), if_pos (by omega)]
  have := refPut_loop n (widthB a) h2 (widthB a) k 0 (by omega) (by omega)
  rw [show IntKind.u64.wrap n = n % 18446744073709551616 by simp [IntKind.wrap, IntKind.bits, IntKind.signed]]
  simpa [putB] using this

end Go.Proofs.Ytcclmaicdmogjaa.P

-- Written by wip/pr.py over the kit's print
namespace Go.Proofs.Ytcclmaicdmogjaa.P
open Go.RowKit Go.Proofs.YtcclmaicdmogjaaW.PrintWords Go.Proofs.YtcclmaicdmogjaaW.PrintLast Go.Proofs.YtcclmaicdmogjaaW.PrintMore
attribute [local go_sem] max2_int min2_int max_two min_two max_three min_three max_four min_four   -- for this text's walks alone
set_option linter.unusedVariables false
set_option linter.unusedSimpArgs false

/-! ### calamusref06_Metrics: function 59 (by hand) -/
-- FUNC calamus/calamusref06.Metrics
-- ROUNDS no
-- MAKES yes
-- INFO uint8
-- NEEDS be
/-- The metric of glyph i, of m + 1 advances. -/
def met1 (l : List Int) (m i : Nat) : S111 :=
  if i < m + 1 then ⟨pre (l.drop (4 * i)) 2, sgnB (pre (l.drop (4 * i + 2)) 2) 2⟩ else ⟨pre (l.drop (4 * m)) 2, sgnB (pre (l.drop (4 * (m + 1) + 2 * (i - (m + 1)))) 2) 2⟩
def mets (l : List Int) (m n : Nat) : List S111 := (List.range n).map (met1 l m)
theorem mets_succ (l : List Int) (m n : Nat) : mets l m (n + 1) = mets l m n ++ [met1 l m n] := by unfold mets; rw [List.range_succ, List.map_append]; rfl
theorem mets_length (l : List Int) (m n : Nat) : (mets l m n).length = n := by simp [mets]
theorem mets_get (l : List Int) (m n i : Nat) (h : i < n) : (mets l m n).getD i z111 = met1 l m i := by simp [mets, List.getD_eq_getElem?_getD, List.getElem?_map, List.getElem?_range, h]
/-- What a table hmtx tells. -/
def metR (l : List Int) (c g : Int) : List S111 × Int :=
  if g < 1 ∨ g > 1024 ∨ c < 1 ∨ c > g then ([], 2) else if (l.length : Int) < 4 * c + 2 * (g - c) then ([], 3) else (mets l (c.toNat - 1) g.toNat, 0)
def calamusref06_Metrics.f (l0 : List Int) (a1 : Int) (a2 : Int) : Option (List S111 × Int) := if isBytes l0 ∧ inI a1 ∧ inI a2 ∧ l0.length ≤ 4611686018427387904 then some (metR l0 a1 a2) else none
theorem minfo2 : (Try.prog.info? 111).map (fun i => (i.zero, i.size, i.bytes)) = some (some (.agg #[.int .i64 0, .int .i64 0]), 2, 16) := by kernel_rfl
theorem refU2 (l : List Int) (hb : isBytes l) (hm : l.length ≤ 4611686018427387904) (j : Nat) (a : Int) (ha : a = j) (h : j + 2 ≤ l.length) : calamusref02_U.f 8 l a 2 = some (pre (l.drop j) 2, 0) := by
  subst ha
  rw [refU_eq l hb hm _ _ ⟨by omega, by omega⟩ (by decide) 8 (by omega), beU_eq l hb _ _ ⟨by omega, by omega⟩ (by decide), if_neg (by omega), if_pos (by omega)]; rfl
theorem refS2 (l : List Int) (hb : isBytes l) (hm : l.length ≤ 4611686018427387904) (j : Nat) (a : Int) (ha : a = j) (h : j + 2 ≤ l.length) : calamusref02_S.f 8 l a 2 = some (sgnB (pre (l.drop j) 2) 2, 0) := by
  subst ha
  rw [refS_eq l hb hm _ _ ⟨by omega, by omega⟩ (by decide) 8 (by omega), beS_eq l hb _ _ ⟨by omega, by omega⟩ (by decide), if_neg (by omega), if_pos (by omega)]; rfl
theorem set_size (w : World) (a : Addr) (v : Value) : (w.setCell a v).heap.size = w.heap.size := by simp [World.setCell]
set_option maxHeartbeats 2000000 in
set_option maxRecDepth 100000 in
theorem refmet_bad (A0 : Option Addr) (c0 : Nat) (l0 : List Int) (a1 a2 : Int) (w : World) (hb : a2 < 1 ∨ a2 > 1024 ∨ a1 < 1 ∨ a1 > a2) :
    Calls Try.prog 59 #[.slice A0 l0.length c0, .int .i64 a1, .int .i64 a2] w fun e w' => ∃ v0_ : Value, e = .returned (.tuple #[v0_, .int .i64 2]) ∧ Kd.R k111 111 w' w.heap.size (fun _ => True) v0_ [] ∧ Below w.heap.size w w' := by
  by_cases h1 : a2 < 1
  · clear hb
    go_enter Try.func59, Try.ntmps59
    go_wp2
    go_ret2
    exact ⟨_, rfl, Kd.R_nil _ _ _ _ _, Below.refl _ _⟩
  by_cases h2 : 1024 < a2
  · clear hb
    go_enter Try.func59, Try.ntmps59
    go_wp2
    go_ret2
    exact ⟨_, rfl, Kd.R_nil _ _ _ _ _, Below.refl _ _⟩
  by_cases h3 : a1 < 1
  · clear hb
    go_enter Try.func59, Try.ntmps59
    go_wp2
    go_ret2
    exact ⟨_, rfl, Kd.R_nil _ _ _ _ _, Below.refl _ _⟩
  · have h4 : a2 < a1 := by omega
    clear hb
    go_enter Try.func59, Try.ntmps59
    go_wp2
    go_ret2
    exact ⟨_, rfl, Kd.R_nil _ _ _ _ _, Below.refl _ _⟩
set_option maxHeartbeats 2000000 in
set_option maxRecDepth 100000 in
theorem refmet_short (A0 : Option Addr) (c0 : Nat) (l0 : List Int) (m g : Nat) (w : World) (h1 : g ≤ 1024) (h2 : m + 1 ≤ g) (h3 : (l0.length : Int) < 4 * ((m : Int) + 1) + 2 * ((g : Int) - ((m : Int) + 1))) :
    Calls Try.prog 59 #[.slice A0 l0.length c0, .int .i64 ((m : Int) + 1), .int .i64 (g : Int)] w fun e w' => ∃ v0_ : Value, e = .returned (.tuple #[v0_, .int .i64 3]) ∧ Kd.R k111 111 w' w.heap.size (fun _ => True) v0_ [] ∧ Below w.heap.size w w' := by
  go_enter Try.func59, Try.ntmps59
  go_wp2
  go_ret2
  exact ⟨_, rfl, Kd.R_nil _ _ _ _ _, Below.refl _ _⟩
set_option maxHeartbeats 4000000 in
set_option maxRecDepth 100000 in
theorem refmet_ok (A0 : Option Addr) (c0 : Nat) (l0 : List Int) (m g : Nat) (w : World) (HC : Aside0 (Kd.C (Kd.int .u8) w A0 l0.length l0)) (HL : Aside0 (l0.length ≤ c0)) (HBy : Aside0 (isBytes l0)) (hm : l0.length ≤ 4611686018427387904) (h1 : g ≤ 1024) (h2 : m + 1 ≤ g) (h3 : ¬ (l0.length : Int) < 4 * ((m : Int) + 1) + 2 * ((g : Int) - ((m : Int) + 1))) :
    Calls Try.prog 59 #[.slice A0 l0.length c0, .int .i64 ((m : Int) + 1), .int .i64 (g : Int)] w fun e w' => ∃ v0_ : Value, e = .returned (.tuple #[v0_, .int .i64 0]) ∧ Kd.R k111 111 w' w.heap.size (fun _ => True) v0_ (mets l0 m g) ∧ Below w.heap.size w w' := by
  have HB0 := Aside0.mk (Below.refl w.heap.size w)
  have HLE := Aside0.mk (show 4 * (m + 1) + 2 * (g - (m + 1)) ≤ l0.length by omega)
  go_enter Try.func59, Try.ntmps59
  go_wp2
  go_loopg [8, 9] g (fun kq v8 v9 w' => ∃ (k : Nat), v9 = .int .i64 (k : Int) ∧ k ≤ g ∧ Aside0 (g - k = kq) ∧ Aside0 (Kd.R k111 111 w' w.heap.size (fun _ => True) v8 (mets l0 m k)) ∧ Aside0 (Below w.heap.size w w'))
  case atStart => exact ⟨0, rfl, by omega, ⟨rfl⟩, ⟨Kd.R_nil _ _ _ _ _⟩, HB0⟩
  case round =>
    obtain ⟨k, rfl, hk, HK, HO, HB⟩ := hrel
    clear HB0
    by_cases hlt : k < g
    · by_cases hkm : k < m + 1
      · obtain ⟨xs, hxs⟩ : ∃ xs, mets l0 m k = xs := ⟨_, rfl⟩
        have hxl : xs.length ≤ 1024 := by rw [← hxs, mets_length]; omega
        have HO2 : Aside0 (Kd.R k111 111 wr w.heap.size (fun _ => True) u8 xs) := ⟨by rw [← hxs]; exact HO.out⟩
        obtain ⟨adv, hadv⟩ : ∃ adv, pre (l0.drop (4 * k)) 2 = adv := ⟨_, rfl⟩
        obtain ⟨brg, hbrg⟩ : ∃ brg, sgnB (pre (l0.drop (4 * k + 2)) 2) 2 = brg := ⟨_, rfl⟩
        have HU := Aside0.mk (show calamusref02_U.f 8 l0 (4 * (k : Int)) 2 = some (adv, 0) by rw [← hadv]; exact refU2 l0 HBy.out hm (4 * k) _ (by omega) (by have := HLE.out; omega))
        have HSg := Aside0.mk (show calamusref02_S.f 8 l0 (4 * (k : Int) + 2) 2 = some (brg, 0) by rw [← hbrg]; exact refS2 l0 HBy.out hm (4 * k + 2) _ (by omega) (by have := HLE.out; omega))
        have HN := Aside0.mk (show mets l0 m (k + 1) = xs ++ [⟨adv, brg⟩] by rw [mets_succ, hxs, ← hadv, ← hbrg]; unfold met1; rw [if_pos hkm])
        have hk4 : 4 * (k : Int) + 2 ≤ 4100 := by omega
        clear hxs hadv hbrg HO
        go_wp2_with (first
          | ((with_reducible refine gate_dst (N := 10) rfl ?_); refine box_event rfl (N := 10) rfl (cs := #[.int .i64 0, .int .i64 0]) (t := 111) ?hr ?_; (case hr => first | (go_simp; done) | (go_simp; rfl)); intro gb hg w9 hbox hb9; have HB9 := Aside0.mk hb9; have HBX := Aside0.mk hbox; have HGE := Aside0.mk (show wr.heap.size ≤ gb from Nat.le_of_eq hg.symm); have hc0 : w9.cell? ⟨gb, 0, none⟩ = some (.int .i64 0) := (blk_cell hbox 0).trans rfl; have hc1 : w9.cell? ⟨gb, 1, none⟩ = some (.int .i64 0) := (blk_cell hbox 1).trans rfl; have hf0 := blk_frozen hbox 0; have hf1 := blk_frozen hbox 1; clear hg hbox hb9)
          | (go_at_call 37; (with_reducible refine (calamusref02_U.calls 8 _ _ l0 (4 * (k : Int)) 2 adv 0 _ ?uc HL.out HU.out).mono ?_); (case uc => exact Kd.C_below HC.out (below_step HB.out (by repeat (first | exact HB9.out | apply pw_below_drewN | (refine below_set ?_ HGE.out))))); rintro e w' ⟨rfl, ⟨nd, hq⟩⟩; have HBU := Aside0.mk (blk_at hq.symm (blk_set (blk_set HBX.out 0 (.int .i64 0)) 1 (.int .i64 0))); have HB9u : Aside0 (Below wr.heap.size wr w') := ⟨below_at hq.symm (by repeat (first | exact HB9.out | refine below_set ?_ HGE.out))⟩; clear hq hc0 hc1 hf0 hf1; have hc0 : w'.cell? ⟨gb, 0, none⟩ = some (.int .i64 0) := (blk_cell HBU.out 0).trans rfl; have hc1 : w'.cell? ⟨gb, 1, none⟩ = some (.int .i64 0) := (blk_cell HBU.out 1).trans rfl; have hf0 := blk_frozen HBU.out 0; have hf1 := blk_frozen HBU.out 1)
          | (go_at_call 39; (with_reducible refine (calamusref02_S.calls 8 _ _ l0 (4 * (k : Int) + 2) 2 brg 0 _ ?sc HL.out HSg.out).mono ?_); (case sc => exact Kd.C_below HC.out (below_step HB.out (by repeat (first | exact HB9u.out | apply pw_below_drewN | (refine below_set ?_ HGE.out))))); rintro e w' ⟨rfl, ⟨nd2, hq⟩⟩; have HBS := Aside0.mk (blk_at hq.symm (blk_set HBU.out 0 (.int .i64 adv))); have HB9s : Aside0 (Below wr.heap.size wr w') := ⟨below_at hq.symm (by repeat (first | exact HB9u.out | refine below_set ?_ HGE.out))⟩; clear hq hc0 hc1 hf0 hf1; have hc0 : w'.cell? ⟨gb, 0, none⟩ = some (.int .i64 adv) := (blk_cell HBS.out 0).trans rfl; have hc1 : w'.cell? ⟨gb, 1, none⟩ = some (.int .i64 0) := (blk_cell HBS.out 1).trans rfl; have hf0 := blk_frozen HBS.out 0; have hf1 := blk_frozen HBS.out 1)
          | ((with_reducible refine gate_builtin (b := .append) (xs := #[.tmp 82, .tmp 84]) rfl ?_); at_builtin; refine Kd.R_append k111 (w0 := w) w.heap.size rfl (.tmp 82) (.tmp 84) 73 111 (.agg #[(.int .i64 0), (.int .i64 0)]) 16 rfl Try.underlying73 minfo2 rfl (by decide) (by omega) u8 xs (⟨adv, brg⟩ : S111) [.int .i64 adv, .int .i64 brg] (fun _ => True) (fun _ => False) rfl ?aX ?aP (fun _ hk => hk.elim) ?aF ?aO ?aB ?aS ?aL ?_; (case aX => rw [set_size]; first | done | rfl); (case aP => exact k111_mkM _ _ _ (⟨adv, brg⟩ : S111)); (case aB => exact below_step HB.out (by repeat (first | exact HB9s.out | apply pw_below_drewN | (refine below_set ?_ HGE.out)))); (case aF => exact (fun _ _ => trivial)); (case aO => exact Kd.R_below HO2.out (by repeat (first | exact HB9s.out | apply pw_below_drewN | (refine below_set ?_ HGE.out)))); (case aS => exact below_size (below_step HB.out (by repeat (first | exact HB9s.out | apply pw_below_drewN | (refine below_set ?_ HGE.out))))); (case aL => omega); intro v403 w15 ho hb hg hat; have HO15 := Aside0.mk ho; have HB15 := Aside0.mk hb; clear ho hb hg hat))
        go_roundg (g - (k + 1))
        case measure => have := HK.out; omega
        case rel => exact ⟨k + 1, by go_num, by omega, ⟨rfl⟩, ⟨by rw [HN.out]; exact HO15.out⟩, HB15⟩
      · obtain ⟨xs, hxs⟩ : ∃ xs, mets l0 m k = xs := ⟨_, rfl⟩
        have hxl : xs.length ≤ 1024 := by rw [← hxs, mets_length]; omega
        have HO2 : Aside0 (Kd.R k111 111 wr w.heap.size (fun _ => True) u8 xs) := ⟨by rw [← hxs]; exact HO.out⟩
        have hml : m < xs.length := by rw [← hxs, mets_length]; omega
        obtain ⟨A8, c8, hv8, hl8, hC8⟩ := Kd.R_reads HO2.out
        subst hv8
        obtain ⟨ad8, x8, hA8, hy0, hy1, HY⟩ := C_atM hC8 m hml
        subst hA8
        have HX8 := Aside0.mk (show x8 = met1 l0 m m by rw [← HY.out, ← hxs, mets_get _ _ _ _ (by omega)])
        obtain ⟨adv, bb⟩ := x8
        simp only at hy0
        obtain ⟨brg, hbrg⟩ : ∃ brg, sgnB (pre (l0.drop (4 * (m + 1) + 2 * (k - (m + 1)))) 2) 2 = brg := ⟨_, rfl⟩
        have HSg := Aside0.mk (show calamusref02_S.f 8 l0 (4 * ((m : Int) + 1) + 2 * ((k : Int) - ((m : Int) + 1))) 2 = some (brg, 0) by rw [← hbrg]; exact refS2 l0 HBy.out hm (4 * (m + 1) + 2 * (k - (m + 1))) _ (by omega) (by have := HLE.out; omega))
        have HN := Aside0.mk (show mets l0 m (k + 1) = xs ++ [⟨adv, brg⟩] by
          have h8 := HX8.out
          unfold met1 at h8
          rw [if_pos (by omega)] at h8
          rw [mets_succ, hxs, ← hbrg]
          unfold met1
          rw [if_neg hkm]
          injection h8 with h8 _
          rw [h8])
        clear hxs hbrg HO hy1 hC8 hl8
        go_wp2_with (first
          | ((with_reducible refine gate_dst (N := 10) rfl ?_); refine box_event rfl (N := 10) rfl (cs := #[.int .i64 0, .int .i64 0]) (t := 111) ?hr ?_; (case hr => first | (go_simp; done) | (go_simp; rfl)); intro gb hg w9 hbox hb9; have HB9 := Aside0.mk hb9; have hy0' : ((w9.setCell ⟨gb, 0, none⟩ (.int .i64 0)).setCell ⟨gb, 1, none⟩ (.int .i64 0)).cell? (ad8.add (m * 2)) = some (.int .i64 adv) := (Below.cell (below_set (below_set hb9 (Nat.le_of_eq hg.symm)) (Nat.le_of_eq hg.symm)) (World.block_lt_of_cell? wr _ hy0)).trans hy0; have HBX := Aside0.mk hbox; have HGE := Aside0.mk (show wr.heap.size ≤ gb from Nat.le_of_eq hg.symm); have hc0 : w9.cell? ⟨gb, 0, none⟩ = some (.int .i64 0) := (blk_cell hbox 0).trans rfl; have hc1 : w9.cell? ⟨gb, 1, none⟩ = some (.int .i64 0) := (blk_cell hbox 1).trans rfl; have hf0 := blk_frozen hbox 0; have hf1 := blk_frozen hbox 1; clear hg hbox hb9)
          | (go_at_call 39; (with_reducible refine (calamusref02_S.calls 8 _ _ l0 (4 * ((m : Int) + 1) + 2 * ((k : Int) - ((m : Int) + 1))) 2 brg 0 _ ?sc HL.out HSg.out).mono ?_); (case sc => exact Kd.C_below HC.out (below_step HB.out (by repeat (first | exact HB9.out | apply pw_below_drewN | (refine below_set ?_ HGE.out))))); rintro e w' ⟨rfl, ⟨nd2, hq⟩⟩; have HBS := Aside0.mk (blk_at hq.symm (blk_set (blk_set (blk_set HBX.out 0 (.int .i64 0)) 1 (.int .i64 0)) 0 (.int .i64 adv))); have HB9s : Aside0 (Below wr.heap.size wr w') := ⟨below_at hq.symm (by repeat (first | exact HB9.out | refine below_set ?_ HGE.out))⟩; clear hy0' hq hc0 hc1 hf0 hf1; have hc0 : w'.cell? ⟨gb, 0, none⟩ = some (.int .i64 adv) := (blk_cell HBS.out 0).trans rfl; have hc1 : w'.cell? ⟨gb, 1, none⟩ = some (.int .i64 0) := (blk_cell HBS.out 1).trans rfl; have hf0 := blk_frozen HBS.out 0; have hf1 := blk_frozen HBS.out 1)
          | ((with_reducible refine gate_builtin (b := .append) (xs := #[.tmp 82, .tmp 84]) rfl ?_); at_builtin; refine Kd.R_append k111 (w0 := w) w.heap.size rfl (.tmp 82) (.tmp 84) 73 111 (.agg #[(.int .i64 0), (.int .i64 0)]) 16 rfl Try.underlying73 minfo2 rfl (by decide) (by omega) _ xs (⟨adv, brg⟩ : S111) [.int .i64 adv, .int .i64 brg] (fun _ => True) (fun _ => False) rfl ?aX ?aP (fun _ hk => hk.elim) ?aF ?aO ?aB ?aS ?aL ?_; (case aX => rw [set_size]; first | done | rfl); (case aP => exact k111_mkM _ _ _ (⟨adv, brg⟩ : S111)); (case aB => exact below_step HB.out (by repeat (first | exact HB9s.out | apply pw_below_drewN | (refine below_set ?_ HGE.out)))); (case aF => exact (fun _ _ => trivial)); (case aO => exact Kd.R_below HO2.out (by repeat (first | exact HB9s.out | apply pw_below_drewN | (refine below_set ?_ HGE.out)))); (case aS => exact below_size (below_step HB.out (by repeat (first | exact HB9s.out | apply pw_below_drewN | (refine below_set ?_ HGE.out))))); (case aL => omega); intro v403 w15 ho hb hg hat; have HO15 := Aside0.mk ho; have HB15 := Aside0.mk hb; clear ho hb hg hat))
        go_roundg (g - (k + 1))
        case measure => have := HK.out; omega
        case rel => exact ⟨k + 1, by go_num, by omega, ⟨rfl⟩, ⟨by rw [HN.out]; exact HO15.out⟩, HB15⟩
    · go_wp2
      go_ret2
      obtain rfl : k = g := by omega
      exact ⟨_, rfl, HO.out, HB.out⟩
theorem calamusref06_Metrics.calls (A0 : Option Addr) (c0 : Nat) (l0 : List Int) (a1 : Int) (a2 : Int) (r1 : List (S111)) (r2 : Int) (w : World) (hr0 : Kd.C (Kd.int .u8) w A0 l0.length l0) (hc0 : l0.length ≤ c0) (h : calamusref06_Metrics.f l0 a1 a2 = some (r1, r2)) :
    Calls Try.prog 59 #[.slice A0 l0.length c0, .int .i64 a1, .int .i64 a2] w fun e w' => ∃ v0_ : Value, e = .returned (.tuple #[v0_, .int .i64 r2]) ∧ Kd.R k111 111 w' w.heap.size (fun _ => True) v0_ r1 ∧ Below w.heap.size w w' := by
  unfold calamusref06_Metrics.f at h
  split at h
  case isFalse => cases h
  rename_i hg
  obtain ⟨hby, hi1, hi2, hm⟩ := hg
  simp only [Option.some.injEq] at h
  unfold metR at h
  by_cases hb : a2 < 1 ∨ a2 > 1024 ∨ a1 < 1 ∨ a1 > a2
  · rw [if_pos hb] at h
    simp only [Prod.mk.injEq] at h
    obtain ⟨rfl, rfl⟩ := h
    exact refmet_bad A0 c0 l0 a1 a2 w hb
  rw [if_neg hb] at h
  obtain ⟨m, rfl⟩ : ∃ m : Nat, a1 = (m : Int) + 1 := ⟨(a1 - 1).toNat, by omega⟩
  obtain ⟨g, rfl⟩ : ∃ g : Nat, a2 = (g : Int) := ⟨a2.toNat, by omega⟩
  rw [show ((m : Int) + 1).toNat - 1 = m from rfl, show ((g : Int)).toNat = g from rfl] at h
  by_cases hs : (l0.length : Int) < 4 * ((m : Int) + 1) + 2 * ((g : Int) - ((m : Int) + 1))
  · rw [if_pos hs] at h
    simp only [Prod.mk.injEq] at h
    obtain ⟨rfl, rfl⟩ := h
    exact refmet_short A0 c0 l0 m g w (by omega) (by omega) hs
  · rw [if_neg hs] at h
    simp only [Prod.mk.injEq] at h
    obtain ⟨rfl, rfl⟩ := h
    exact refmet_ok A0 c0 l0 m g w ⟨hr0⟩ ⟨hc0⟩ ⟨hby⟩ hm (by omega) (by omega) hs


end Go.Proofs.Ytcclmaicdmogjaa.P

namespace Go.Proofs.Ytcclmaicdmogjaa.P
open Go.RowKit Go.Proofs.YtcclmaicdmogjaaW.PrintWords Go.Proofs.YtcclmaicdmogjaaW.PrintLast Go.Proofs.YtcclmaicdmogjaaW.PrintMore
set_option linter.unusedVariables false
set_option linter.unusedSimpArgs false

-- USES loca_PutMetrics calamusref06_PutMetrics calamusref02_Put
-- NEEDS be
theorem refPutM (y : Int) (h : inI y) (k : Nat) (hk : 9 ≤ k) : calamusref02_Put.f k y 2 = some (putB y 2) := by
  rw [refPut_eq y 2 h k hk, show widthB 2 = 2 by decide]
theorem dropM (l : List S111) (i : Nat) (h : i < l.length) : l.drop i = l.getD i z111 :: l.drop (i + 1) := by
  rw [List.drop_eq_getElem_cons h]; congr 1; simp [List.getD_eq_getElem?_getD, List.getElem?_eq_getElem h]
theorem getM (l : List S111) (i : Nat) (h : i < l.length) : l.getD i z111 ∈ l := by
  rw [List.getD_eq_getElem?_getD, List.getElem?_eq_getElem h]; exact List.getElem_mem h
theorem rdM (l : List S111) (i : Nat) : rd_T111 l (i : Int) = l.getD i z111 := rfl
theorem refPM0 (l : List S111) (n : Int) (hm : l.length ≤ 1024) (K : Nat) (d : Nat) : ∀ i : Nat, i + d = l.length →
    calamusref06_PutMetrics.l0 (K + d + 1) l n l (l.length : Int) (i : Int) = if (l.drop i).any pm1 = true then some ([], 6) else calamusref06_PutMetrics.l1 K l n [] l (l.length : Int) 0 := by
  induction d with
  | zero =>
    intro i hi
    simp only [calamusref06_PutMetrics.l0]
    rw [if_neg (by omega), List.drop_of_length_le (by omega)]
    rfl
  | succ d ih =>
    intro i hi
    have ih' := ih (i + 1) (by omega)
    obtain ⟨q, hq⟩ : ∃ q, K + d + 1 = q := ⟨_, rfl⟩
    rw [hq] at ih'
    rw [show K + (d + 1) + 1 = q + 1 by omega]
    simp only [calamusref06_PutMetrics.l0]
    rw [if_pos (by omega), if_pos (by omega), if_pos (by omega), rdM, dropM l i (by omega), List.any_cons]
    obtain ⟨x, hx⟩ : ∃ x, l.getD i z111 = x := ⟨_, rfl⟩
    rw [hx, IntWalk.wrap64_in ((i : Int) + 1) ⟨by omega, by omega⟩, show (i : Int) + 1 = ((i + 1 : Nat) : Int) from rfl, ih']
    have hp : pm1 x = !decide (metOK x) := rfl
    by_cases ho : metOK x
    · obtain ⟨⟨h1, h2⟩, h3, h4⟩ := id ho
      rw [if_neg (by omega), if_neg (by omega), if_neg (by omega), if_neg (by omega), hp, decide_eq_true ho]
      rfl
    · have e : (pm1 x || (l.drop (i + 1)).any pm1) = true := by rw [hp, decide_eq_false ho]; rfl
      rw [if_pos e]
      unfold metOK at ho
      by_cases h1 : x.f0 < 0
      · rw [if_pos h1]
      rw [if_neg h1]
      by_cases h2 : x.f0 > 65535
      · rw [if_pos h2]
      rw [if_neg h2]
      by_cases h3 : x.f1 < -32768
      · rw [if_pos h3]
      rw [if_neg h3, if_pos (by omega)]
theorem refPM1 (l : List S111) (n : Nat) (hn : 1 ≤ n) (hnl : n ≤ l.length) (hm : l.length ≤ 1024) (hx : ∀ x ∈ l, inI x.f0 ∧ inI x.f1) (d : Nat) : ∀ (i k : Nat) (acc : List Int), i + d = l.length → 2 * d + 12 < k → acc.length ≤ 4 * i →
    calamusref06_PutMetrics.l1 k l (n : Int) acc l (l.length : Int) (i : Int) = some (if (l.drop (max i n)).any (pm2 (l.getD (n - 1) z111).f0) = true then ([], 4) else (acc ++ flatM n (l.drop i) i, 0)) := by
  induction d with
  | zero =>
    intro i k acc hi hk ha
    obtain ⟨k, rfl⟩ : ∃ m, k = m + 1 := ⟨k - 1, by omega⟩
    simp only [calamusref06_PutMetrics.l1]
    rw [if_neg (by omega), List.drop_of_length_le (by omega), List.drop_of_length_le (by omega), if_neg (by simp)]
    simp [flatM]
  | succ d ih =>
    intro i k acc hi hk ha
    obtain ⟨k, rfl⟩ : ∃ m, k = m + 1 + 1 := ⟨k - 2, by omega⟩
    obtain ⟨x, hxe⟩ : ∃ x, l.getD i z111 = x := ⟨_, rfl⟩
    obtain ⟨h0, h1⟩ := hx x (hxe ▸ getM l i (by omega))
    obtain ⟨y, hy⟩ : ∃ y, (l.getD (n - 1) z111).f0 = y := ⟨_, rfl⟩
    have hp0 : (putB x.f0 2).length = 2 := putB_length _ _
    have hp1 : (putB x.f1 2).length = 2 := putB_length _ _
    obtain ⟨p0, hp0e⟩ : ∃ p, putB x.f0 2 = p := ⟨_, rfl⟩
    obtain ⟨p1, hp1e⟩ : ∃ p, putB x.f1 2 = p := ⟨_, rfl⟩
    have hflat : flatM n (l.drop i) i = metB n i x ++ flatM n (l.drop (i + 1)) (i + 1) := by rw [dropM l i (by omega), hxe]; rfl
    rw [hy] at ih ⊢
    rw [hp0e] at hp0
    rw [hp1e] at hp1
    simp only [calamusref06_PutMetrics.l1]
    rw [if_pos (by omega), if_pos (by omega), if_pos (by omega), rdM, hxe, hflat]
    by_cases hin : (i : Int) ≥ (n : Int)
    · have hmb : metB n i x = p1 := by unfold metB; rw [if_neg (by omega), hp1e]; rfl
      rw [if_pos hin, IntWalk.wrap64_in ((n : Int) - 1) ⟨by omega, by omega⟩, if_pos (by omega), if_pos (by omega), show (n : Int) - 1 = ((n - 1 : Nat) : Int) by omega, rdM, hy, hmb, show max i n = i by omega, dropM l i (by omega), List.any_cons, hxe]
      simp only [calamusref06_PutMetrics.j3]
      by_cases hb : (x.f0 != y) = true
      · have e : (pm2 y x || (l.drop (i + 1)).any (pm2 y)) = true := by rw [show pm2 y x = (x.f0 != y) from rfl, hb]; rfl
        rw [if_pos hb, if_pos e]
      · have e : (pm2 y x || (l.drop (i + 1)).any (pm2 y)) = (l.drop (i + 1)).any (pm2 y) := by rw [show pm2 y x = (x.f0 != y) from rfl, Bool.eq_false_iff.mpr hb]; rfl
        have hnext := ih (i + 1) k (acc ++ p1) (by omega) (by omega) (by rw [List.length_append]; omega)
        rw [show max (i + 1) n = i + 1 by omega] at hnext
        rw [if_neg hb, e, if_neg (by omega), refPutM _ h1 k (by omega), hp1e, Option.bind_some, if_pos (by omega), IntWalk.wrap64_in ((i : Int) + 1) ⟨by omega, by omega⟩, show (i : Int) + 1 = ((i + 1 : Nat) : Int) from rfl, hnext, List.append_assoc]
    · have hmb : metB n i x = p0 ++ p1 := by unfold metB; rw [if_pos (by omega), hp0e, hp1e]
      rw [if_neg hin, hmb]
      simp only [calamusref06_PutMetrics.j3]
      have hnext := ih (i + 1) k (acc ++ p0 ++ p1) (by omega) (by omega) (by simp only [List.length_append]; omega)
      rw [show max (i + 1) n = n by omega] at hnext
      rw [if_neg (by decide), if_pos (by omega), refPutM _ h0 k (by omega), hp0e, Option.bind_some, if_pos (by omega), Option.bind_some, refPutM _ h1 k (by omega), hp1e, Option.bind_some, if_pos (by rw [List.length_append]; omega), IntWalk.wrap64_in ((i : Int) + 1) ⟨by omega, by omega⟩, show (i : Int) + 1 = ((i + 1 : Nat) : Int) from rfl, hnext, show max i n = n by omega]
      simp only [List.append_assoc]
theorem refPM_eq (l : List S111) (n : Int) (hx : ∀ x ∈ l, inI x.f0 ∧ inI x.f1) (hn : inI n) (hm : l.length ≤ 140737488355328) (k : Nat) (hk : 4000 < k) : calamusref06_PutMetrics.f k l n = some (metW l n) := by
  obtain ⟨k, rfl⟩ : ∃ m, k = m + 1 := ⟨k - 1, by omega⟩
  unfold calamusref06_PutMetrics.f metW
  by_cases hbad : l.length < 1 ∨ l.length > 1024 ∨ n < 1 ∨ n > l.length
  · rw [if_pos hbad]
    simp only [calamusref06_PutMetrics.j0]
    by_cases h1 : (l.length : Int) < 1
    · rw [if_pos h1, if_pos trivial]
    rw [if_neg h1]
    by_cases h2 : (l.length : Int) > 1024
    · rw [if_pos h2, if_pos trivial]
    rw [if_neg h2]
    by_cases h3 : n < 1
    · rw [if_pos h3, if_pos trivial]
    rw [if_neg h3, if_pos (decide_eq_true (show n > (l.length : Int) by omega))]
  · rw [if_neg hbad, if_neg (by omega), if_neg (by omega), if_neg (by omega)]
    simp only [calamusref06_PutMetrics.j0]
    rw [if_neg (show ¬ decide (n > (l.length : Int)) = true by simp; omega)]
    obtain ⟨K, hK, hK2⟩ : ∃ K, k = K + l.length + 1 ∧ 2 * l.length + 12 < K := ⟨k - l.length - 1, by omega, by omega⟩
    obtain ⟨m, rfl⟩ : ∃ m : Nat, n = (m : Int) := ⟨n.toNat, by omega⟩
    have e0 := refPM0 l (m : Int) (by omega) K l.length 0 (by omega)
    have e1 := refPM1 l m (by omega) (by omega) (by omega) hx l.length 0 K [] (by omega) hK2 (by simp)
    rw [List.drop_zero, show ((0 : Nat) : Int) = 0 from rfl] at e0
    rw [List.drop_zero, show ((0 : Nat) : Int) = 0 from rfl, show max 0 m = m by omega, List.nil_append] at e1
    rw [hK, e0, e1, show ((m : Nat) : Int).toNat = m from rfl]
    split <;> rfl

end Go.Proofs.Ytcclmaicdmogjaa.P

namespace Go.Proofs.Ytcclmaicdmogjaa.P
open Go.RowKit Go.Proofs.YtcclmaicdmogjaaW.PrintWords Go.Proofs.YtcclmaicdmogjaaW.PrintLast Go.Proofs.YtcclmaicdmogjaaW.PrintMore
set_option linter.unusedVariables false
set_option linter.unusedSimpArgs false

-- USES loca_Metrics calamusref06_Metrics calamusref06_Same be_U be_S
-- NEEDS be
theorem beU2 (l : List Int) (hb : isBytes l) (j : Nat) (hj : j ≤ 100000) (h : j + 2 ≤ l.length) : be_U.f l (j : Int) 2 = some (pre (l.drop j) 2, 0) := by
  rw [beU_eq l hb _ _ ⟨by omega, by omega⟩ (by decide), if_neg (by omega), if_pos (by omega)]; rfl
theorem beS2 (l : List Int) (hb : isBytes l) (j : Nat) (hj : j ≤ 100000) (h : j + 2 ≤ l.length) : be_S.f l (j : Int) 2 = some (sgnB (pre (l.drop j) 2) 2, 0) := by
  rw [beS_eq l hb _ _ ⟨by omega, by omega⟩ (by decide), if_neg (by omega), if_pos (by omega)]; rfl
/-- Where the round of glyph i stands. -/
def offM (m i : Nat) : Nat := if i < m + 1 then 4 * i else 4 * (m + 1) + 2 * (i - (m + 1))
theorem locaMet_loop (l : List Int) (hb : isBytes l) (m g : Nat) (hmg : m + 1 ≤ g) (hg : g ≤ 1024) (hl : 4 * (m + 1) + 2 * (g - (m + 1)) ≤ l.length) (d : Nat) : ∀ (i k : Nat) (x : Int), i + d = g → d < k → (m + 1 ≤ i → x = pre (l.drop (4 * m)) 2) →
    loca_Metrics.l0 k l ((m : Int) + 1) (mets l m i) (offM m i : Int) x (g : Int) (i : Int) = some (mets l m g, 0) := by
  induction d with
  | zero =>
    intro i k x hi hk hx
    obtain ⟨k, rfl⟩ : ∃ m, k = m + 1 := ⟨k - 1, by omega⟩
    obtain rfl : i = g := by omega
    simp only [loca_Metrics.l0]
    rw [if_neg (by omega)]
  | succ d ih =>
    intro i k x hi hk hx
    obtain ⟨k, rfl⟩ : ∃ m, k = m + 1 := ⟨k - 1, by omega⟩
    simp only [loca_Metrics.l0]
    rw [if_pos (by omega)]
    by_cases h : i < m + 1
    · have hnext := ih (i + 1) k (pre (l.drop (4 * i)) 2) (by omega) (by omega) (fun hh => by rw [show i = m by omega])
      have ho : offM m i = 4 * i := if_pos h
      have ho' : ((offM m (i + 1) : Nat) : Int) = ((4 * i : Nat) : Int) + 2 + 2 := by unfold offM; split <;> omega
      have hm1 : met1 l m i = ⟨pre (l.drop (4 * i)) 2, sgnB (pre (l.drop (4 * i + 2)) 2) 2⟩ := if_pos h
      rw [if_pos (by omega), ho, IntWalk.wrap64_in (((4 * i : Nat) : Int) + 2) ⟨by omega, by omega⟩, IntWalk.wrap64_in (((4 * i : Nat) : Int) + 2 + 2) ⟨by omega, by omega⟩, IntWalk.wrap64_in ((i : Int) + 1) ⟨by omega, by omega⟩, beU2 l hb _ (by omega) (by omega)]
      simp only [Option.bind_some]
      rw [show ((4 * i : Nat) : Int) + 2 = ((4 * i + 2 : Nat) : Int) by omega, beS2 l hb _ (by omega) (by omega)]
      simp only [Option.bind_some]
      rw [mets_length, if_pos (by omega), ← hm1, ← mets_succ, show ((4 * i + 2 : Nat) : Int) + 2 = ((offM m (i + 1) : Nat) : Int) by omega]
      exact hnext
    · have hnext := ih (i + 1) k x (by omega) (by omega) (fun _ => hx (by omega))
      have ho : offM m i = 4 * (m + 1) + 2 * (i - (m + 1)) := if_neg h
      have ho' : ((offM m (i + 1) : Nat) : Int) = ((4 * (m + 1) + 2 * (i - (m + 1)) : Nat) : Int) + 2 := by unfold offM; rw [if_neg (by omega)]; omega
      have hm1 : met1 l m i = ⟨x, sgnB (pre (l.drop (4 * (m + 1) + 2 * (i - (m + 1)))) 2) 2⟩ := by unfold met1; rw [if_neg h, hx (by omega)]
      rw [if_neg (by omega), ho, IntWalk.wrap64_in (((4 * (m + 1) + 2 * (i - (m + 1)) : Nat) : Int) + 2) ⟨by omega, by omega⟩, IntWalk.wrap64_in ((i : Int) + 1) ⟨by omega, by omega⟩, beS2 l hb _ (by omega) (by omega)]
      simp only [Option.bind_some]
      rw [mets_length, if_pos (by omega), ← hm1, ← mets_succ, ← ho']
      exact hnext
theorem locaMet_eq (l : List Int) (hb : isBytes l) (hm : l.length ≤ 4611686018427387904) (c g : Int) (hc : inI c) (hg : inI g) (k : Nat) (hk : 1100 < k) : loca_Metrics.f k l c g = some (metR l c g) := by
  obtain ⟨k, rfl⟩ : ∃ m, k = m + 1 := ⟨k - 1, by omega⟩
  unfold loca_Metrics.f metR
  by_cases hbad : g < 1 ∨ g > 1024 ∨ c < 1 ∨ c > g
  · rw [if_pos hbad]
    simp only [loca_Metrics.j0]
    by_cases h1 : g < 1
    · rw [if_pos h1, if_pos trivial]
    rw [if_neg h1]
    by_cases h2 : g > 1024
    · rw [if_pos h2, if_pos trivial]
    rw [if_neg h2]
    by_cases h3 : c < 1
    · rw [if_pos h3, if_pos trivial]
    rw [if_neg h3, if_pos (decide_eq_true (show c > g by omega))]
  · rw [if_neg hbad, if_neg (show ¬ g < 1 by omega), if_neg (show ¬ g > 1024 by omega), if_neg (show ¬ c < 1 by omega)]
    simp only [loca_Metrics.j0]
    rw [if_neg (show ¬ decide (c > g) = true by simp; omega)]
    rw [IntWalk.wrap64_in (4 * c) ⟨by omega, by omega⟩, IntWalk.wrap64_in (g - c) ⟨by omega, by omega⟩, IntWalk.wrap64_in (2 * (g - c)) ⟨by omega, by omega⟩, IntWalk.wrap64_in (4 * c + 2 * (g - c)) ⟨by omega, by omega⟩]
    by_cases hs : (l.length : Int) < 4 * c + 2 * (g - c)
    · rw [if_pos hs, if_pos hs]
    · rw [if_neg hs, if_neg hs]
      obtain ⟨m, rfl⟩ : ∃ m : Nat, c = (m : Int) + 1 := ⟨(c - 1).toNat, by omega⟩
      obtain ⟨n, rfl⟩ : ∃ n : Nat, g = (n : Int) := ⟨g.toNat, by omega⟩
      have := locaMet_loop l hb m n (by omega) (by omega) (by omega) n 0 k 0 (by omega) (by omega) (fun h => absurd h (by omega))
      rw [show ((m : Int) + 1).toNat - 1 = m from rfl, show ((n : Int)).toNat = n from rfl, ← this]
      congr 1
theorem sameM_loop (xs : List S111) (hx : xs.length ≤ 4611686018427387904) (d : Nat) : ∀ (i k : Nat), i + d = xs.length → d < k → calamusref06_Same.l0 k xs xs (xs.length : Int) (i : Int) = some true := by
  induction d with
  | zero =>
    intro i k hi hk
    obtain ⟨k, rfl⟩ : ∃ m, k = m + 1 := ⟨k - 1, by omega⟩
    simp only [calamusref06_Same.l0]
    rw [if_neg (by omega)]
  | succ d ih =>
    intro i k hi hk
    obtain ⟨k, rfl⟩ : ∃ m, k = m + 1 := ⟨k - 1, by omega⟩
    simp only [calamusref06_Same.l0]
    rw [if_pos (by omega), if_pos (by omega), if_pos (by omega), if_pos (by omega), if_neg (by simp), IntWalk.wrap64_in ((i : Int) + 1) ⟨by omega, by omega⟩]
    exact ih (i + 1) k (by omega) (by omega)
theorem sameM_refl (xs : List S111) (hx : xs.length ≤ 4611686018427387904) (k : Nat) (hk : xs.length < k) : calamusref06_Same.f k xs xs = some true := by
  unfold calamusref06_Same.f
  rw [if_pos rfl]
  exact sameM_loop xs hx xs.length 0 k (by omega) hk
theorem metR_len (l : List Int) (c g : Int) : (metR l c g).1.length ≤ 1024 := by
  unfold metR
  (repeat' split) <;> simp [mets_length] <;> omega

end Go.Proofs.Ytcclmaicdmogjaa.P

namespace Go.Proofs.Ytcclmaicdmogjaa.P
open Go.RowKit Go.Proofs.YtcclmaicdmogjaaW.PrintWords Go.Proofs.YtcclmaicdmogjaaW.PrintLast Go.Proofs.YtcclmaicdmogjaaW.PrintMore
set_option linter.unusedVariables false
set_option linter.unusedSimpArgs false

-- USES loca_PutMetrics calamusref06_Metrics loca_Metrics calamusref06_Same
-- NEEDS putmp met
theorem pre_put2 (y : Int) (r : List Int) : pre (putB y 2 ++ r) 2 = y % 65536 := by
  have : pre (putB y 2 ++ r) 2 = (0 * 256 + y / 256 ^ 1 % 256) * 256 + y / 256 ^ 0 % 256 := rfl
  rw [this]
  simp only [Int.pow_succ, Int.pow_zero, Int.one_mul, Int.ediv_one]
  omega
theorem sgn_put2 (y : Int) (r : List Int) (h1 : -32768 ≤ y) (h2 : y ≤ 32767) : sgnB (pre (putB y 2 ++ r) 2) 2 = y := by
  rw [pre_put2]
  unfold sgnB
  have e : (256 : Int) ^ 2 = 65536 := by decide
  rw [e]
  split <;> omega
theorem flat_off (l : List S111) (m : Nat) : ∀ i, i ≤ l.length → (flatM ((m : Int) + 1) (l.take i) 0).length = offM m i := by
  intro i
  induction i with
  | zero => intro _; rfl
  | succ i ih =>
    intro h
    rw [flatM_succ _ _ _ (by omega), List.length_append, ih (by omega)]
    unfold metB offM
    by_cases c : i < m + 1
    · rw [if_pos c, if_pos (by omega), List.length_append, putB_length, putB_length]
      split <;> omega
    · rw [if_neg c, if_neg (by omega), if_neg (by omega), List.nil_append, putB_length]
      omega
theorem flat_drop (l : List S111) (m i : Nat) (h : i ≤ l.length) : (flatM ((m : Int) + 1) l 0).drop (offM m i) = flatM ((m : Int) + 1) (l.drop i) i := by
  have e : flatM ((m : Int) + 1) l 0 = flatM ((m : Int) + 1) (l.take i) 0 ++ flatM ((m : Int) + 1) (l.drop i) i := by
    have := flatM_append ((m : Int) + 1) (l.take i) (l.drop i) 0
    rw [List.take_append_drop, Nat.zero_add, List.length_take, Nat.min_eq_left h] at this
    exact this
  rw [e, ← flat_off l m i h, List.drop_append_of_le_length (Nat.le_refl _), List.drop_of_length_le (Nat.le_refl _), List.nil_append]
theorem met_back (l : List S111) (m : Nat) (hm : m + 1 ≤ l.length) (h1 : ∀ x ∈ l, metOK x) (h2 : ∀ x ∈ l.drop (m + 1), x.f0 = (l.getD m z111).f0) : mets (flatM ((m : Int) + 1) l 0) m l.length = l := by
  have hlong : ∀ i, i < m + 1 → ∃ r, (flatM ((m : Int) + 1) l 0).drop (4 * i) = putB (l.getD i z111).f0 2 ++ (putB (l.getD i z111).f1 2 ++ r) := fun i hi => by
    have := flat_drop l m i (by omega)
    rw [show offM m i = 4 * i from if_pos hi, dropM l i (by omega)] at this
    refine ⟨flatM ((m : Int) + 1) (l.drop (i + 1)) (i + 1), ?_⟩
    rw [this]
    show metB _ _ _ ++ _ = _
    unfold metB
    rw [if_pos (by omega), List.append_assoc]
  refine List.ext_getElem (by rw [mets_length]) (fun i hi hi' => ?_)
  have hok := h1 _ (getM l i hi')
  obtain ⟨⟨o1, o2⟩, o3, o4⟩ := hok
  have e1 : (mets (flatM ((m : Int) + 1) l 0) m l.length)[i] = met1 (flatM ((m : Int) + 1) l 0) m i := by
    have := mets_get (flatM ((m : Int) + 1) l 0) m l.length i hi'
    rw [List.getD_eq_getElem?_getD, List.getElem?_eq_getElem hi] at this
    exact this
  have e2 : l[i] = l.getD i z111 := by simp [List.getD_eq_getElem?_getD, List.getElem?_eq_getElem hi']
  rw [e1, e2]
  unfold met1
  by_cases c : i < m + 1
  · obtain ⟨r, hr⟩ := hlong i c
    rw [if_pos c, hr, pre_put2, ← List.drop_drop, hr]
    rw [List.drop_append_of_le_length (by rw [putB_length]; exact Nat.le_refl _), List.drop_of_length_le (by rw [putB_length]; exact Nat.le_refl _), List.nil_append, sgn_put2 _ _ o3 o4]
    rw [show (l.getD i z111).f0 % 65536 = (l.getD i z111).f0 by omega]
  · obtain ⟨r, hr⟩ := hlong m (by omega)
    have hd := flat_drop l m i (by omega)
    rw [show offM m i = 4 * (m + 1) + 2 * (i - (m + 1)) from if_neg c, dropM l i (by omega)] at hd
    have hd' : (flatM ((m : Int) + 1) l 0).drop (4 * (m + 1) + 2 * (i - (m + 1))) = putB (l.getD i z111).f1 2 ++ flatM ((m : Int) + 1) (l.drop (i + 1)) (i + 1) := by
      rw [hd]
      show metB _ _ _ ++ _ = _
      unfold metB
      rw [if_neg (by omega), List.nil_append]
    have hf : (l.getD i z111).f0 = (l.getD m z111).f0 := by
      refine h2 _ ?_
      have : l.getD i z111 = (l.drop (m + 1)).getD (i - (m + 1)) z111 := by
        simp only [List.getD_eq_getElem?_getD, List.getElem?_drop]
        rw [show m + 1 + (i - (m + 1)) = i by omega]
      rw [this]
      exact getM _ _ (by rw [List.length_drop]; omega)
    rw [if_neg c, hr, pre_put2, hd', sgn_put2 _ _ o3 o4, ← hf]
    rw [show (l.getD i z111).f0 % 65536 = (l.getD i z111).f0 by omega]
theorem metW_back (l : List S111) (n : Int) (h : (metW l n).2 = 0) : metR (metW l n).1 n (l.length : Int) = (l, 0) := by
  unfold metW at h ⊢
  by_cases c1 : l.length < 1 ∨ l.length > 1024 ∨ n < 1 ∨ n > l.length
  · rw [if_pos c1] at h; exact absurd h (by decide)
  rw [if_neg c1] at h ⊢
  by_cases c2 : l.any pm1 = true
  · rw [if_pos c2] at h; exact absurd h (by decide)
  rw [if_neg c2] at h ⊢
  by_cases c3 : (l.drop n.toNat).any (pm2 (l.getD (n.toNat - 1) z111).f0) = true
  · rw [if_pos c3] at h; exact absurd h (by decide)
  rw [if_neg c3]
  obtain ⟨m, rfl⟩ : ∃ m : Nat, n = (m : Int) + 1 := ⟨(n - 1).toNat, by omega⟩
  rw [show ((m : Int) + 1).toNat = m + 1 from rfl, show m + 1 - 1 = m from rfl] at c3
  have h1 : ∀ x ∈ l, metOK x := fun x hx => by
    refine Decidable.byContradiction fun hh => c2 (List.any_eq_true.2 ⟨x, hx, ?_⟩)
    unfold pm1; rw [decide_eq_false hh]; rfl
  have h2 : ∀ x ∈ l.drop (m + 1), x.f0 = (l.getD m z111).f0 := fun x hx => by
    refine Decidable.byContradiction fun hh => c3 (List.any_eq_true.2 ⟨x, hx, ?_⟩)
    unfold pm2; exact bne_iff_ne.2 hh
  have hlen := flat_off l m l.length (Nat.le_refl _)
  rw [List.take_length] at hlen
  have ho : offM m l.length = 4 * (m + 1) + 2 * (l.length - (m + 1)) := by unfold offM; split <;> omega
  unfold metR
  simp only
  rw [if_neg (by omega), if_neg (by rw [hlen, ho]; omega), show ((m : Int) + 1).toNat - 1 = m from rfl, show ((l.length : Nat) : Int).toNat = l.length from rfl, met_back l m (by omega) h1 h2]
theorem flatM_bytes (n : Int) (l : List S111) : ∀ i, isBytes (flatM n l i) := by
  induction l with
  | nil => intro i x hx; simp [flatM] at hx
  | cons y r ih =>
    intro i x hx
    simp only [flatM, metB, List.mem_append] at hx
    rcases hx with (hx | hx) | hx
    · split at hx
      · exact putB_bytes _ _ x hx
      · simp at hx
    · exact putB_bytes _ _ x hx
    · exact ih _ x hx
theorem metW_bytes (l : List S111) (n : Int) : isBytes (metW l n).1 := by
  unfold metW
  (repeat' split) <;> first | exact flatM_bytes _ _ _ | (intro x hx; simp at hx)
theorem metW_len (l : List S111) (n : Int) : (metW l n).1.length ≤ 4 * l.length := by
  unfold metW
  (repeat' split) <;> first | exact flatM_len _ _ _ | (simp only [List.length_nil]; omega)

end Go.Proofs.Ytcclmaicdmogjaa.P

namespace Go.Proofs.Ytcclmaicdmogjaa.P
open Go.RowKit Go.Proofs.YtcclmaicdmogjaaW.PrintWords Go.Proofs.YtcclmaicdmogjaaW.PrintLast Go.Proofs.YtcclmaicdmogjaaW.PrintMore
set_option linter.unusedVariables false
set_option linter.unusedSimpArgs false

-- USES calamuslaw06_alive
theorem alive06_60 : calamuslaw06_alive.f 60 = some true := by decide +kernel
theorem alive06_all : ∀ k, 60 ≤ k → calamuslaw06_alive.f k = some true := by
  intro k hk
  obtain ⟨d, rfl⟩ : ∃ d, k = 60 + d := ⟨k - 60, by omega⟩
  induction d with
  | zero => exact alive06_60
  | succ d ih => exact calamuslaw06_alive.mono (60 + d) _ (ih (by omega))

end Go.Proofs.Ytcclmaicdmogjaa.P

namespace Go.Proofs.Ytcclmaicdmogjaa.P
open Go.RowKit Go.Proofs.YtcclmaicdmogjaaW.PrintWords Go.Proofs.YtcclmaicdmogjaaW.PrintLast Go.Proofs.YtcclmaicdmogjaaW.PrintMore
set_option linter.unusedVariables false
set_option linter.unusedSimpArgs false

-- USES calamuslaw06_alive calamuslaw06_LocaPuts
-- NEEDS metback alive06
theorem locaPuts_all (l : List S111) (n : Int) (hl : l.length ≤ 8796093022000) (hx : ∀ x ∈ l, inI x.f0 ∧ inI x.f1) (hn : inI n) : calamuslaw06_LocaPuts.f (5000 + l.length) l n = some true := by
  unfold calamuslaw06_LocaPuts.f
  rw [alive06_all _ (by omega), Option.bind_some, if_pos (Eq.refl _), Option.bind_some, List.nil_append, if_pos (by simp only [List.length_nil]; omega), Option.bind_some]
  rw [show loca_PutMetrics.f l n = some (metW l n) from if_pos ⟨hx, hn⟩, Option.bind_some, refPM_eq l n hx hn (by omega) _ (by omega), Option.bind_some]
  rw [if_pos (Eq.refl _), same_refl, Option.bind_some, if_pos (Eq.refl _), sameM_refl l (by omega) _ (by omega), Option.bind_some]
  rw [show 5000 + l.length = (4999 + l.length) + 1 by omega]
  simp only [calamuslaw06_LocaPuts.j0]
  rw [if_neg (by decide)]
  by_cases h : (metW l n).2 = 0
  · rw [if_pos h]
    have hb : isBytes (metW l n).1 := metW_bytes l n
    have hlen : (metW l n).1.length ≤ 4 * l.length := metW_len l n
    rw [locaMet_eq _ hb (by omega) n _ hn ⟨by omega, by omega⟩ _ (by omega), metW_back l n h, Option.bind_some, if_pos (Eq.refl _), sameM_refl l (by omega) _ (by omega)]
    rfl
  · rw [if_neg h]

end Go.Proofs.Ytcclmaicdmogjaa.P
