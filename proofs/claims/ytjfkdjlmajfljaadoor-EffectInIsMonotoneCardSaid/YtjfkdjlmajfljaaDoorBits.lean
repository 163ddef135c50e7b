/- Words of 64 bits for predicates: no program in sight. -/
import Derived.Laws.Bits64b
import Derived.Lib.TrailingZeros
namespace Go.Proofs.YtjfkdjlmajfljaaDoor
open Go
def bitsN : Nat → (Nat → Bool) → Nat
  | 0, _ => 0
  | k + 1, f => bitsN k f + (if f k then 2 ^ k else 0)
theorem bitsN_lt (k : Nat) (f : Nat → Bool) : bitsN k f < 2 ^ k := by
  induction k with
  | zero => simp [bitsN]
  | succ k ih => unfold bitsN; rw [Nat.pow_succ]; split <;> omega
theorem testBit_bitsN (k : Nat) (f : Nat → Bool) (i : Nat) : (bitsN k f).testBit i = (decide (i < k) && f i) := by
  induction k with
  | zero => simp [bitsN]
  | succ k ih =>
    unfold bitsN
    have hlt := bitsN_lt k f
    by_cases hf : f k
    · rw [if_pos hf, Nat.add_comm, show 2 ^ k = 2 ^ k * 1 by omega, Nat.testBit_two_pow_mul_add _ hlt]
      by_cases h : i < k
      · rw [if_pos h, ih]; simp [h, Nat.lt_succ_of_lt h]
      · rw [if_neg h]
        by_cases h2 : i = k
        · subst h2; simp [hf]
        · have e1 : i - k = (i - k - 1) + 1 := by omega
          rw [e1, Nat.testBit_succ]
          have : ¬ i < k + 1 := by omega
          simp [this]
    · rw [if_neg hf, Nat.add_zero, ih]
      by_cases h : i < k
      · simp [h, Nat.lt_succ_of_lt h]
      · by_cases h2 : i = k
        · subst h2; simp [hf]
        · have : ¬ i < k + 1 := by omega
          simp [h, this]
/-- The j-th word of a set. -/
def wordOf (p : Nat → Bool) (j : Nat) : Nat := bitsN 64 (fun i => p (64 * j + i))
theorem wordOf_lt (p : Nat → Bool) (j : Nat) : wordOf p j < 18446744073709551616 := bitsN_lt 64 _
theorem wordOf_eq {p : Nat → Bool} {j x : Nat} (hx : x < 18446744073709551616) (h : ∀ i, i < 64 → x.testBit i = p (64 * j + i)) : wordOf p j = x := by
  apply Nat.eq_of_testBit_eq
  intro i
  unfold wordOf
  rw [testBit_bitsN]
  by_cases hi : i < 64
  · simp [hi, h i hi]
  · have : x < 2 ^ i := Nat.lt_of_lt_of_le hx (by
      have : 2 ^ 64 ≤ 2 ^ i := Nat.pow_le_pow_right (by omega) (by omega)
      simpa using this)
    rw [Nat.testBit_lt_two_pow this]
    simp [hi]
theorem wordOf_bit (p : Nat → Bool) (j : Nat) {i : Nat} (h : i < 64) : (wordOf p j).testBit i = p (64 * j + i) := by
  unfold wordOf
  rw [testBit_bitsN]; simp [h]
def putP (p : Nat → Bool) (n : Nat) (b : Bool) : Nat → Bool := fun k => if k = n then b else p k
theorem pow_lt64 {r : Nat} (h : r < 64) : 2 ^ r < 18446744073709551616 := by
  have : 2 ^ r < 2 ^ 64 := Nat.pow_lt_pow_right (by omega) h
  simpa using this
theorem wrap_pow {r : Nat} (h : r < 64) : IntKind.u64.wrap (2 ^ r) = ((2 ^ r : Nat) : Int) := by
  have := pow_lt64 h
  rw [IntKind.wrap_u64]
  have e : (2 : Int) ^ r = ((2 ^ r : Nat) : Int) := by simp
  rw [e]
  generalize 2 ^ r = x at *
  omega
theorem put_word_in (p : Nat → Bool) {q r n : Nat} (hn : n = 64 * q + r) (hr : r < 64) : bits BinOp.or IntKind.u64 (wordOf p q) (IntKind.u64.wrap (2 ^ r)) = (wordOf (putP p n true) q : Nat) := by
  rw [wrap_pow hr, bits_or_u64_nat _ _ (wordOf_lt _ _) (pow_lt64 hr)]
  congr 1
  symm
  apply wordOf_eq
  · exact Nat.or_lt_two_pow (n := 64) (wordOf_lt p q) (pow_lt64 hr)
  · intro i hi
    rw [Nat.testBit_or, wordOf_bit p q hi, Nat.testBit_two_pow]
    unfold putP
    by_cases e : r = i
    · subst e; simp [hn]
    · have : ¬ 64 * q + i = n := by omega
      simp [e, this]
theorem bits_andNot_u64_nat (a b : Nat) (ha : a < 18446744073709551616) (hb : b < 18446744073709551616) : bits .andNot .u64 (a : Int) (b : Int) = ((a &&& (18446744073709551615 - b) : Nat) : Int) := by
  have hx : a &&& (18446744073709551615 - b) < 2 ^ 64 := Nat.and_lt_two_pow _ (by omega)
  have e1 : ∀ c : Nat, c < 18446744073709551616 → (BitVec.ofInt 64 (c : Int)).toNat = c := fun c hc => by
    rw [BitVec.ofInt_natCast, BitVec.toNat_ofNat]; exact Nat.mod_eq_of_lt (by omega)
  show IntKind.u64.wrap ((BitVec.ofInt 64 (a : Int) &&& ~~~BitVec.ofInt 64 (b : Int)).toNat : Int) = _
  rw [BitVec.toNat_and, BitVec.toNat_not, e1 a ha, e1 b hb, IntKind.wrap_u64]
  have e : 2 ^ 64 - 1 - b = 18446744073709551615 - b := by omega
  rw [e]
  omega
theorem testBit_not64 {b i : Nat} (hb : b < 18446744073709551616) (hi : i < 64) : (18446744073709551615 - b).testBit i = !b.testBit i := by
  have e : 18446744073709551615 - b = 2 ^ 64 - (b + 1) := by omega
  rw [e, Nat.testBit_two_pow_sub_succ (by simpa using hb)]
  simp [hi]
theorem put_word_out (p : Nat → Bool) {q r n : Nat} (hn : n = 64 * q + r) (hr : r < 64) : bits BinOp.andNot IntKind.u64 (wordOf p q) (IntKind.u64.wrap (2 ^ r)) = (wordOf (putP p n false) q : Nat) := by
  rw [wrap_pow hr, bits_andNot_u64_nat _ _ (wordOf_lt _ _) (pow_lt64 hr)]
  congr 1
  symm
  apply wordOf_eq
  · exact Nat.and_lt_two_pow (n := 64) _ (Nat.lt_of_le_of_lt (Nat.sub_le _ _) (by decide))
  · intro i hi
    rw [Nat.testBit_and, wordOf_bit p q hi, testBit_not64 (pow_lt64 hr) hi, Nat.testBit_two_pow]
    unfold putP
    by_cases e : r = i
    · subst e; simp [hn]
    · have : ¬ 64 * q + i = n := by omega
      simp [e, this]
theorem wordOf_put_other (p : Nat → Bool) {q j n : Nat} {b : Bool} (hn : n / 64 = q) (hj : j ≠ q) : wordOf (putP p n b) j = wordOf p j := by
  apply wordOf_eq (wordOf_lt _ _)
  intro i hi
  rw [wordOf_bit p j hi]
  unfold putP
  have : ¬ 64 * j + i = n := by omega
  simp [this]
theorem or_word (p q : Nat → Bool) (j : Nat) : bits BinOp.or IntKind.u64 (wordOf p j) (wordOf q j) = (wordOf (fun k => p k || q k) j : Nat) := by
  rw [bits_or_u64_nat _ _ (wordOf_lt _ _) (wordOf_lt _ _)]
  congr 1
  symm
  apply wordOf_eq (Nat.or_lt_two_pow (n := 64) (wordOf_lt p j) (wordOf_lt q j))
  intro i hi
  rw [Nat.testBit_or, wordOf_bit p j hi, wordOf_bit q j hi]
theorem and_word (p q : Nat → Bool) (j : Nat) : bits BinOp.and IntKind.u64 (wordOf p j) (wordOf q j) = (wordOf (fun k => p k && q k) j : Nat) := by
  rw [bits_and_u64_nat _ _ (wordOf_lt _ _) (wordOf_lt _ _)]
  congr 1
  symm
  apply wordOf_eq (Nat.and_lt_two_pow (n := 64) _ (wordOf_lt q j))
  intro i hi
  rw [Nat.testBit_and, wordOf_bit p j hi, wordOf_bit q j hi]
theorem andNot_word (p q : Nat → Bool) (j : Nat) : bits BinOp.andNot IntKind.u64 (wordOf p j) (wordOf q j) = (wordOf (fun k => p k && !q k) j : Nat) := by
  rw [bits_andNot_u64_nat _ _ (wordOf_lt _ _) (wordOf_lt _ _)]
  congr 1
  symm
  apply wordOf_eq (Nat.and_lt_two_pow (n := 64) _ (by omega))
  intro i hi
  rw [Nat.testBit_and, wordOf_bit p j hi, testBit_not64 (wordOf_lt _ _) hi, wordOf_bit q j hi]
theorem has_word (p : Nat → Bool) {q r n : Nat} (hn : n = 64 * q + r) (hr : r < 64) : (bits BinOp.and IntKind.u64 ((wordOf p q : Nat) / 2 ^ r) 1 == 1) = p n := by
  have e : ((wordOf p q : Nat) : Int) / 2 ^ r = ((wordOf p q / 2 ^ r : Nat) : Int) := by simp
  have hlt : wordOf p q / 2 ^ r < 18446744073709551616 := Nat.lt_of_le_of_lt (Nat.div_le_self _ _) (wordOf_lt p q)
  rw [e, show (1 : Int) = ((1 : Nat) : Int) from rfl, bits_and_u64_nat _ _ hlt (by omega)]
  have h := wordOf_bit p q hr
  rw [← hn] at h
  rw [← h, Nat.testBit_eq_decide_div_mod_eq, Nat.and_one_is_mod]
  have : wordOf p q / 2 ^ r % 2 = 0 ∨ wordOf p q / 2 ^ r % 2 = 1 := by omega
  rcases this with h | h <;> rw [h] <;> decide
/-- The set bits of a word, ascending. -/
def bitsOf (x : Nat) : List Nat := (List.range 64).filter x.testBit
theorem bitsOf_zero : bitsOf 0 = [] := by unfold bitsOf; simp
theorem and_pred (k m : Nat) : (2 ^ k * (2 * m + 1)) &&& (2 ^ k * (2 * m + 1) - 1) = 2 ^ (k + 1) * m := by
  apply Nat.eq_of_testBit_eq
  intro i
  have hp : 0 < 2 ^ k := Nat.pow_pos (by omega)
  have e1 : 2 ^ k * (2 * m + 1) - 1 = 2 ^ (k + 1) * m + (2 ^ k - 1) := by
    rw [Nat.mul_add, Nat.pow_succ, Nat.mul_one, Nat.mul_assoc]; omega
  have e2 : 2 ^ k * (2 * m + 1) = 2 ^ (k + 1) * m + 2 ^ k := by
    rw [Nat.mul_add, Nat.pow_succ, Nat.mul_one, Nat.mul_assoc]
  have l1 : 2 ^ k - 1 < 2 ^ (k + 1) := by rw [Nat.pow_succ]; omega
  have l2 : 2 ^ k < 2 ^ (k + 1) := by rw [Nat.pow_succ]; omega
  rw [Nat.testBit_and, e1, e2, Nat.testBit_two_pow_mul_add _ l1, Nat.testBit_two_pow_mul_add _ l2, Nat.testBit_two_pow_mul]
  by_cases h : i < k + 1
  · have : ¬ k + 1 ≤ i := by omega
    rw [if_pos h, if_pos h, Nat.testBit_two_pow, Nat.testBit_two_pow_sub_one]
    by_cases h2 : k = i
    · simp [h2]; omega
    · simp [h2]; omega
  · rw [if_neg h, if_neg h]
    have : k + 1 ≤ i := by omega
    simp [this]
theorem bitsOf_step {x : Nat} (h0 : x ≠ 0) (hx : x < 18446744073709551616) : bitsOf x = Lib.ctz 64 x :: bitsOf (x &&& (x - 1)) ∧ Lib.ctz 64 x < 64 := by
  obtain ⟨m, hm, hk⟩ := Lib.ctzFrom_spec 64 x (by omega) (by simpa using hx)
  have e : Lib.ctz 64 x = Lib.ctzFrom 64 x := by simp [Lib.ctz, h0]
  rw [e]
  refine ⟨?_, hk⟩
  generalize Lib.ctzFrom 64 x = k at *
  have ha := and_pred k m
  rw [← hm] at ha
  rw [ha]
  unfold bitsOf
  have hsp : List.range 64 = List.range k ++ k :: (List.range (63 - k)).map (· + (k + 1)) := by
    have : 64 = k + (1 + (63 - k)) := by omega
    rw [this, List.range_add, List.range_add]
    simp
    intro a _
    omega
  have bit : ∀ i, x.testBit i = if i < k + 1 then decide (k = i) else m.testBit (i - (k + 1)) := by
    intro i
    have e2 : x = 2 ^ (k + 1) * m + 2 ^ k := by rw [hm, Nat.mul_add, Nat.pow_succ, Nat.mul_one, Nat.mul_assoc]
    have l2 : 2 ^ k < 2 ^ (k + 1) := by rw [Nat.pow_succ]; have : 0 < 2 ^ k := Nat.pow_pos (by omega); omega
    rw [e2, Nat.testBit_two_pow_mul_add _ l2, Nat.testBit_two_pow]
  rw [hsp, List.filter_append, List.filter_append]
  have f1 : (List.range k).filter x.testBit = [] := by
    rw [List.filter_eq_nil_iff]
    intro i hi
    have : i < k := by simpa using hi
    rw [bit i, if_pos (by omega)]
    simp; omega
  have f2 : (List.range k).filter (2 ^ (k + 1) * m).testBit = [] := by
    rw [List.filter_eq_nil_iff]
    intro i hi
    have : i < k := by simpa using hi
    rw [Nat.testBit_two_pow_mul]
    simp; omega
  have hk1 : x.testBit k = true := by rw [bit k, if_pos (by omega)]; simp
  have hk2 : (2 ^ (k + 1) * m).testBit k = false := by rw [Nat.testBit_two_pow_mul]; simp; omega
  rw [f1, f2, List.nil_append, List.nil_append, List.filter_cons_of_pos hk1, List.filter_cons_of_neg (by rw [hk2]; simp)]
  congr 1
  apply List.filter_congr
  intro i hi
  obtain ⟨a, _, rfl⟩ := List.mem_map.1 hi
  rw [bit, if_neg (by omega), Nat.testBit_two_pow_mul]
  have : k + 1 ≤ a + (k + 1) := by omega
  simp
end Go.Proofs.YtjfkdjlmajfljaaDoor
