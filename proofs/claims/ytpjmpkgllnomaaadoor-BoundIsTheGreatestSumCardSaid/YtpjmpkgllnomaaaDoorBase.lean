/- Plain facts on integers, powers of two and bits, with no program in sight. -/
import Derived.WalkKit
import Derived.Laws.BitsAllLaws
import Derived.WalkSpells
import Derived.ProofKit
import Derived.OpenShut
import Derived.Deep.Slices
import Derived.Deep.Fields
import Derived.Deep.AppendLies
namespace Go.Proofs.YtpjmpkgllnomaaaDoor
open Go.RowKit

theorem hide {p : Prop} (h : p) : Hid p := h

theorem p64_lt {j : Nat} (h : j ≤ 62) : (2 : Nat) ^ j < 2 ^ 63 := Nat.pow_lt_pow_right (by omega) (by omega)

theorem ofInt64_nat (a : Nat) (ha : a < 9223372036854775808) : (BitVec.ofInt 64 (a : Int)).toNat = a := by
  rw [BitVec.ofInt_natCast, BitVec.toNat_ofNat]; exact Nat.mod_eq_of_lt (by omega)

theorem i64_and_nat (a b : Nat) (ha : a < 9223372036854775808) (hb : b < 9223372036854775808) : bits .and .i64 (a : Int) (b : Int) = ((a &&& b : Nat) : Int) := by
  have hx : a &&& b < 2 ^ 63 := Nat.and_lt_two_pow _ (by omega)
  show IntKind.i64.wrap ((BitVec.ofInt 64 (a : Int) &&& BitVec.ofInt 64 (b : Int)).toNat : Int) = _
  rw [BitVec.toNat_and, ofInt64_nat a ha, ofInt64_nat b hb, IntKind.wrap_i64]
  omega

theorem nat_andNot_mask (x j : Nat) (hx : x < 2 ^ 64) (hj : j ≤ 63) : x &&& (2 ^ 64 - 1 - (2 ^ j - 1)) = x / 2 ^ j * 2 ^ j := by
  apply Nat.eq_of_testBit_eq
  intro i
  rw [Nat.testBit_and, Nat.testBit_mul_two_pow, Nat.testBit_div_two_pow]
  have hpj : (2 : Nat) ^ j ≤ 2 ^ 63 := Nat.pow_le_pow_right (by omega) hj
  have e : 2 ^ 64 - 1 - (2 ^ j - 1) = 2 ^ 64 - ((2 ^ j - 1) + 1) := by omega
  rw [e, Nat.testBit_two_pow_sub_succ (by omega), Nat.testBit_two_pow_sub_one]
  by_cases hij : j ≤ i
  · have h1 : ¬ i < j := by omega
    have h2 : j + (i - j) = i := by omega
    have h2' : i - j + j = i := by omega
    by_cases hi : i < 64
    · simp [hij, hi, h2']
    · have : x.testBit i = false := Nat.testBit_lt_two_pow (Nat.lt_of_lt_of_le hx (Nat.pow_le_pow_right (by omega) (by omega)))
      simp [this, hij, h2']
  · have h1 : i < j := by omega
    simp [hij, h1]

theorem i64_andNot_mask (x j : Nat) (hx : x < 9223372036854775808) (hj : j ≤ 62) : bits .andNot .i64 (x : Int) ((2 ^ j : Nat) - 1 : Int) = ((x / 2 ^ j * 2 ^ j : Nat) : Int) := by
  have hp := p64_lt hj
  have h1 : 1 ≤ 2 ^ j := Nat.one_le_two_pow
  have e : (((2 ^ j : Nat) : Int) - 1) = ((2 ^ j - 1 : Nat) : Int) := by omega
  rw [e]
  have hle : x / 2 ^ j * 2 ^ j ≤ x := Nat.div_mul_le_self _ _
  show IntKind.i64.wrap ((BitVec.ofInt 64 (x : Int) &&& ~~~BitVec.ofInt 64 ((2 ^ j - 1 : Nat) : Int)).toNat : Int) = _
  rw [BitVec.toNat_and, BitVec.toNat_not, ofInt64_nat x hx, ofInt64_nat (2 ^ j - 1) (by omega), nat_andNot_mask x j (by omega) (by omega), IntKind.wrap_i64]
  omega

/- a power of two: n & (n - 1) == 0 -/
theorem and_pred_zero {n : Nat} (hn : 0 < n) (h : n &&& (n - 1) = 0) : ∃ j, n = 2 ^ j := by
  refine ⟨n.log2, ?_⟩
  have hlo : 2 ^ n.log2 ≤ n := Nat.log2_self_le (by omega)
  have hhi : n < 2 ^ (n.log2 + 1) := Nat.lt_log2_self
  rcases Nat.lt_or_ge (2 ^ n.log2) n with hlt | hge
  · exfalso
    have h1 : n.testBit n.log2 = true := by
      rw [Nat.testBit_eq_decide_div_mod_eq]
      have : n / 2 ^ n.log2 = 1 := by
        apply Nat.div_eq_of_lt_le <;> simp <;> omega
      simp [this]
    have h2 : (n - 1).testBit n.log2 = true := by
      rw [Nat.testBit_eq_decide_div_mod_eq]
      have : (n - 1) / 2 ^ n.log2 = 1 := by
        apply Nat.div_eq_of_lt_le <;> simp <;> omega
      simp [this]
    have h3 : (n &&& (n - 1)).testBit n.log2 = true := by rw [Nat.testBit_and, h1, h2]; rfl
    rw [h] at h3
    simp at h3
  · omega

theorem and_pred_pow (j : Nat) : 2 ^ j &&& (2 ^ j - 1) = 0 := by
  rw [Nat.and_two_pow_sub_one_eq_mod]; simp

theorem pow_le_pow_iff2 {i j : Nat} : (2 : Nat) ^ i ≤ 2 ^ j ↔ i ≤ j := Nat.pow_le_pow_iff_right (by omega)

/- the test of extent.Power, as a Bool -/
def powB (n : Int) : Bool := decide (1 ≤ n) && decide (n ≤ 16777216) && (bits .and .i64 n (n - 1) == 0)
theorem powB_iff (n : Int) : powB n = true ↔ ∃ j : Nat, j ≤ 24 ∧ n = ((2 ^ j : Nat) : Int) := by
  unfold powB
  constructor
  · intro h
    simp only [Bool.and_eq_true, decide_eq_true_eq, beq_iff_eq] at h
    obtain ⟨⟨h1, h2⟩, h3⟩ := h
    obtain ⟨m, rfl⟩ := Int.eq_ofNat_of_zero_le (show 0 ≤ n by omega)
    have e : ((m : Int) - 1) = ((m - 1 : Nat) : Int) := by omega
    rw [e, i64_and_nat m (m - 1) (by omega) (by omega)] at h3
    obtain ⟨j, hj⟩ := and_pred_zero (n := m) (by omega) (by omega)
    refine ⟨j, ?_, by rw [hj]⟩
    have : (2 : Nat) ^ j ≤ 2 ^ 24 := by rw [← hj]; omega
    exact pow_le_pow_iff2.1 this
  · rintro ⟨j, hj, rfl⟩
    have h1 : 1 ≤ 2 ^ j := Nat.one_le_two_pow
    have h2 : (2 : Nat) ^ j ≤ 2 ^ 24 := pow_le_pow_iff2.2 hj
    have e : (((2 ^ j : Nat) : Int) - 1) = ((2 ^ j - 1 : Nat) : Int) := by omega
    simp only [Bool.and_eq_true, decide_eq_true_eq, beq_iff_eq]
    refine ⟨⟨by omega, by omega⟩, ?_⟩
    rw [e, i64_and_nat _ _ (by omega) (by omega), and_pred_pow]; rfl
theorem powB_pos {n : Int} (h : powB n = true) : 1 ≤ n ∧ n ≤ 16777216 := by
  unfold powB at h
  simp only [Bool.and_eq_true, decide_eq_true_eq] at h
  exact h.1

/- rounding up -/
def upZ (n a : Int) : Int := (n + a - 1) / a * a
theorem upZ_eq {n a : Int} (h0 : 0 ≤ n) (h1 : n ≤ 4611686018427387904) (ha : powB a = true) : bits .andNot .i64 (n + a - 1) (a - 1) = upZ n a := by
  obtain ⟨j, hj, rfl⟩ := (powB_iff a).1 ha
  obtain ⟨m, rfl⟩ := Int.eq_ofNat_of_zero_le h0
  have h1' : 1 ≤ 2 ^ j := Nat.one_le_two_pow
  have h2 : (2 : Nat) ^ j ≤ 2 ^ 24 := pow_le_pow_iff2.2 hj
  have e : ((m : Int) + ((2 ^ j : Nat) : Int) - 1) = ((m + 2 ^ j - 1 : Nat) : Int) := by omega
  unfold upZ
  rw [e, i64_andNot_mask _ j (by omega) (by omega)]
  push_cast
  rfl
theorem upZ_le {n a : Int} (ha : 1 ≤ a) : n ≤ upZ n a := by
  unfold upZ
  have h1 := Int.emod_add_mul_ediv (n + a - 1) a
  have h2 := Int.emod_lt_of_pos (n + a - 1) (show 0 < a by omega)
  have h3 : (n + a - 1) / a * a = a * ((n + a - 1) / a) := Int.mul_comm _ _
  omega
theorem upZ_lt {n a : Int} (ha : 1 ≤ a) : upZ n a < n + a := by
  unfold upZ
  have h1 := Int.emod_add_mul_ediv (n + a - 1) a
  have h2 := Int.emod_nonneg (n + a - 1) (show a ≠ 0 by omega)
  have h3 : (n + a - 1) / a * a = a * ((n + a - 1) / a) := Int.mul_comm _ _
  omega
theorem upZ_dvd (n a : Int) : a ∣ upZ n a := ⟨(n + a - 1) / a, by unfold upZ; exact Int.mul_comm _ _⟩
theorem upZ_mod (n a : Int) : upZ n a % a = 0 := Int.emod_eq_zero_of_dvd (upZ_dvd n a)
theorem upZ_least {n a m : Int} (ha : 1 ≤ a) (hm : a ∣ m) (h : n ≤ m) : upZ n a ≤ m := by
  obtain ⟨k, rfl⟩ := hm
  unfold upZ
  have h1 : (n + a - 1) / a ≤ k := by
    apply Int.le_of_lt_add_one
    apply Int.ediv_lt_of_lt_mul (by omega)
    have : (k + 1) * a = a * k + a := by rw [Int.add_mul, Int.mul_comm]; omega
    omega
  rw [Int.mul_comm a k]
  exact Int.mul_le_mul_of_nonneg_right h1 (by omega)
theorem upZ_id {n a : Int} (ha : 1 ≤ a) (h : a ∣ n) : upZ n a = n :=
  Int.le_antisymm (upZ_least ha h (Int.le_refl _)) (upZ_le ha)
theorem upZ_mod_form {n a : Int} (ha : 1 ≤ a) : upZ n a = if n % a = 0 then n else n - n % a + a := by
  split
  · rename_i h
    exact upZ_id ha (Int.dvd_of_emod_eq_zero h)
  · rename_i h
    have h1 := Int.emod_add_mul_ediv n a
    have h2 := Int.emod_nonneg n (show a ≠ 0 by omega)
    have h3 := Int.emod_lt_of_pos n (show 0 < a by omega)
    have hd : a ∣ n - n % a + a := ⟨n / a + 1, by rw [Int.mul_add]; omega⟩
    apply Int.le_antisymm
    · exact upZ_least ha hd (by omega)
    · have hlo := upZ_le (n := n) ha
      obtain ⟨k, hk⟩ := upZ_dvd n a
      rw [hk] at hlo ⊢
      have : n / a < k := by
        apply Int.lt_of_mul_lt_mul_left (a := a) _ (by omega)
        omega
      have h5 : a * (n / a + 1) ≤ a * k := Int.mul_le_mul_of_nonneg_left (by omega) (by omega)
      rw [Int.mul_add] at h5
      omega
/- the answers of extent.Up -/
def boundB (n : Int) : Bool := decide (0 ≤ n) && decide (n ≤ 2147483647)
theorem boundB_iff (n : Int) : boundB n = true ↔ 0 ≤ n ∧ n ≤ 2147483647 := by simp [boundB]
theorem boundB_no (n : Int) : boundB n = false ↔ n < 0 ∨ 2147483647 < n := by
  rw [← Bool.not_eq_true, boundB_iff]; omega
def upR (n a : Int) : Int × Int := if boundB n && powB a then (if 2147483647 < upZ n a then (0, 9) else (upZ n a, 0)) else (0, 4)
def addR (x y : Int) : Int × Int := if boundB x && boundB y then (if 2147483647 < x + y then (0, 9) else (x + y, 0)) else (0, 4)
end Go.Proofs.YtpjmpkgllnomaaaDoor
/- Words for memory: a slice value that holds given cells, and how an argument of a law opens to them. No program in sight. -/
namespace Go.Proofs.YtpjmpkgllnomaaaDoor
open Go.ChangeShapes Go.WideShapes Go.ChangeAt Go.RowKit Go.Deep

/-- The slice value v has n elements of sz cells each, and these cells are xs; they lie in a block of which S holds. -/
def Holds (w : World) (S : Nat → Prop) (sz : Nat) (v : Value) (n : Nat) (xs : List Value) : Prop :=
  ∃ A c, v = .slice A n c ∧ n ≤ c ∧ c ≤ maxLen ∧ xs.length = n * sz ∧
    (0 < n → ∃ b o, A = some ⟨b, o, none⟩ ∧ S b ∧ ∀ j u, xs[j]? = some u → w.cell? ⟨b, o + j, none⟩ = some u)

section
variable {w w' : World} {S S' : Nat → Prop} {sz n : Nat} {v : Value} {xs : List Value}
theorem Holds.nil_ (w : World) (S : Nat → Prop) (sz : Nat) : Holds w S sz (.slice none 0 0) 0 [] :=
  ⟨none, 0, rfl, Nat.le_refl _, by simp [maxLen], by simp, fun h => absurd h (by omega)⟩
theorem Holds.len (h : Holds w S sz v n xs) : xs.length = n * sz := by obtain ⟨_, _, _, _, _, h, _⟩ := h; exact h
theorem Holds.le (h : Holds w S sz v n xs) : n ≤ maxLen := by obtain ⟨_, _, _, h1, h2, _, _⟩ := h; omega
theorem Holds.keep (h : Holds w S sz v n xs) (hk : ∀ b, S b → w'.heap[b]? = w.heap[b]?) : Holds w' S sz v n xs := by
  obtain ⟨A, c, h1, h2, h3, h4, h5⟩ := h
  refine ⟨A, c, h1, h2, h3, h4, fun hn => ?_⟩
  obtain ⟨b, o, hA, hS, hc⟩ := h5 hn
  exact ⟨b, o, hA, hS, fun j u hu => (World.cell?_of_block (w := w) (w' := w') (hk b hS)).trans (hc j u hu)⟩
theorem Holds.mono (h : Holds w S sz v n xs) (hs : ∀ b, S b → S' b) : Holds w S' sz v n xs := by
  obtain ⟨A, c, h1, h2, h3, h4, h5⟩ := h
  refine ⟨A, c, h1, h2, h3, h4, fun hn => ?_⟩
  obtain ⟨b, o, hA, hS, hc⟩ := h5 hn
  exact ⟨b, o, hA, hs b hS, hc⟩
theorem Holds.below {B : Nat} (h : Holds w S sz v n xs) (hb : Below B w w') (hs : ∀ b, S b → b < B) : Holds w' S sz v n xs :=
  h.keep fun b hS => hb.block b (hs b hS)
/-- The blocks of a reading exist. -/
theorem Holds.lt (h : Holds w S sz v n xs) (hsz : 0 < sz) : Holds w (fun b => S b ∧ b < w.heap.size) sz v n xs := by
  obtain ⟨A, c, h1, h2, h3, h4, h5⟩ := h
  refine ⟨A, c, h1, h2, h3, h4, fun hn => ?_⟩
  obtain ⟨b, o, hA, hS, hc⟩ := h5 hn
  refine ⟨b, o, hA, ⟨hS, ?_⟩, hc⟩
  have hl : 0 < xs.length := by rw [h4]; exact Nat.mul_pos hn hsz
  exact World.block_lt_of_cell? _ _ (hc 0 xs[0] (by simp [hl]))
theorem Holds.at_ (h : Holds w S sz v n xs) {k : Nat} (hk : k < n) :
    ∃ b o c, v = .slice (some ⟨b, o, none⟩) n c ∧ n ≤ c ∧ c ≤ maxLen ∧ S b ∧ ∀ j, j < sz → ∃ u, xs[k * sz + j]? = some u ∧ w.cell? ⟨b, o + k * sz + j, none⟩ = some u := by
  obtain ⟨A, c, h1, h2, h3, h4, h5⟩ := h
  obtain ⟨b, o, hA, hS, hc⟩ := h5 (by omega)
  subst hA
  refine ⟨b, o, c, h1, h2, h3, hS, fun j hj => ?_⟩
  have hlt : k * sz + j < xs.length := by
    rw [h4]
    have : (k + 1) * sz ≤ n * sz := Nat.mul_le_mul_right _ hk
    rw [Nat.add_mul] at this
    omega
  refine ⟨xs[k * sz + j], List.getElem?_eq_getElem hlt, ?_⟩
  rw [Nat.add_assoc]
  exact hc _ _ (List.getElem?_eq_getElem hlt)
theorem Holds.at1 (h : Holds w S 1 v n xs) {k : Nat} (hk : k < n) :
    ∃ b o c u, v = .slice (some ⟨b, o, none⟩) n c ∧ n ≤ c ∧ c ≤ maxLen ∧ S b ∧ xs[k]? = some u ∧ w.cell? ⟨b, o + k, none⟩ = some u := by
  obtain ⟨b, o, c, h1, h2, h3, h4, h5⟩ := h.at_ hk
  obtain ⟨u, hu, hc⟩ := h5 0 (by omega)
  simp only [Nat.mul_one, Nat.add_zero] at hu hc
  exact ⟨b, o, c, u, h1, h2, h3, h4, hu, hc⟩
theorem Holds.addr {w : World} {S : Nat → Prop} {sz n c : Nat} {A : Option Addr} {xs : List Value} (h : Holds w S sz (.slice A n c) n xs) {k : Nat} (hk : k < n) :
    ∃ b o, A = some ⟨b, o, none⟩ ∧ S b ∧ ∀ j, j < sz → ∃ u, xs[k * sz + j]? = some u ∧ w.cell? ⟨b, o + k * sz + j, none⟩ = some u := by
  obtain ⟨b, o, c', h1, h2, h3, h4, h5⟩ := h.at_ hk
  injection h1 with h1 _ _
  exact ⟨b, o, h1, h4, h5⟩
theorem Holds.atInt {w : World} {S : Nat → Prop} {A : Option Addr} {n c : Nat} {kd : IntKind} {l : List Int} (h : Holds w S 1 (.slice A n c) n (l.map (Value.int kd))) {k : Nat} (hk : k < l.length) :
    ∃ b o, A = some ⟨b, o, none⟩ ∧ S b ∧ w.cell? ⟨b, o + k, none⟩ = some (.int kd l[k]) := by
  have hn : n = l.length := by have := h.len; simpa using this.symm
  obtain ⟨b, o, h1, h2, h3⟩ := h.addr (show k < n by omega)
  obtain ⟨u, h5, h6⟩ := h3 0 (by omega)
  simp only [Nat.mul_one, Nat.add_zero] at h5 h6
  rw [List.getElem?_map, List.getElem?_eq_getElem hk] at h5
  injection h5 with h5
  subst h5
  exact ⟨b, o, h1, h2, h6⟩
theorem Holds.of_own {base : Nat} {e : TypeId} (h : w.ownsRow base e sz v n xs) : Holds w (fun b => base ≤ b ∧ b < w.heap.size) sz v n xs := by
  have hl := h.1
  rcases Nat.eq_zero_or_pos n with h0 | h0
  · subst h0
    rcases h.2 with ⟨rfl, _⟩ | ⟨g, cap, cur, rfl, _, _, _, hm, _⟩
    · exact ⟨_, _, rfl, Nat.le_refl _, by simp [maxLen], hl, fun h => absurd h (by omega)⟩
    · exact ⟨_, _, rfl, Nat.zero_le _, hm, hl, fun h => absurd h (by omega)⟩
  · obtain ⟨g, cap, hv, hb, hlt⟩ := h.form h0
    rcases h.2 with ⟨_, h1⟩ | ⟨g', cap', cur, hv', _, _, hnc, hm, _⟩
    · omega
    · have hcells := h.cells (g := g) (by rw [hv]; rfl)
      rw [hv] at hv'
      injection hv' with h1 h2 h3
      subst h3
      refine ⟨_, _, hv, hnc, hm, hl, fun _ => ⟨g, 0, rfl, ⟨hb, hlt⟩, fun j u hu => ?_⟩⟩
      have := hcells j u hu
      have hadd : (⟨g, 0, none⟩ : Addr).add j = ⟨g, 0 + j, none⟩ := by unfold Addr.add; split <;> simp_all
      rwa [hadd] at this
end

/-! ### Arguments -/
theorem list_of_2 {α : Type} {l : List α} (h : l.length = 2) : ∃ a b, l = [a, b] := by
  match l, h with
  | [a, b], _ => exact ⟨a, b, rfl⟩
theorem list_of_3 {α : Type} {l : List α} (h : l.length = 3) : ∃ a b c, l = [a, b, c] := by
  match l, h with
  | [a, b, c], _ => exact ⟨a, b, c, rfl⟩
theorem list_of_5 {α : Type} {l : List α} (h : l.length = 5) : ∃ a b c d e, l = [a, b, c, d, e] := by
  match l, h with
  | [a, b, c, d, e], _ => exact ⟨a, b, c, d, e, rfl⟩
section
variable {H : Type} {enc : TypeId × Value → H} {P : Program} {w : World}

theorem addr_of_cells {a : Addr} {u : Value} (h : w.cell? a = some u) : a = ⟨a.block, a.off, none⟩ := by
  obtain ⟨b, o, s⟩ := a
  simp only [World.cell?] at h
  split at h
  · cases s with
    | none => rfl
    | some x => simp at h
  · cases h

theorem add_none (b o j : Nat) : (⟨b, o, none⟩ : Addr).add j = ⟨b, o + j, none⟩ := by unfold Addr.add; split <;> simp_all

/-- A slice of integers. -/
theorem open_reads {base0 : Nat} {t e : TypeId} {k : IntKind} {v : Value} {d : DataW H} {p : List MemPlace} (ht : P.underlying t = some (.slice e)) (he : P.underlying e = some (.int k)) (hc : P.cellsOf e = 1)
    (hval : Value.okWide P w .any base0 t v) (h : DataW.Trod enc P w 0 (fun _ => true) true t v d p) :
    ∃ l : List Int, Holds w (fun b => b < w.heap.size) 1 v l.length (l.map (Value.int k)) ∧ ∀ z ∈ l, (Lit.int k z).wf = true := by
  obtain ⟨a0, len, cap, rfl⟩ := okWide_slice ht hval
  obtain ⟨fuel, hf⟩ := h
  rcases open_ints ht he hc hf with ⟨hcs, _⟩ | ⟨a, len', cap', zs, hcs, _, hl, hm, hz, _, hcell, hwz⟩
  · have h0 : Value.slice a0 len cap = .slice none 0 0 := by simpa [Value.cells] using hcs
    injection h0 with h1 h2 h3
    subst h1; subst h2; subst h3
    exact ⟨[], ⟨_, _, rfl, Nat.le_refl _, by simp [maxLen], by simp, fun h => absurd h (by simp)⟩, by simp⟩
  · have h0 : Value.slice a0 len cap = .slice (some a) len' cap' := by simpa [Value.cells] using hcs
    injection h0 with h1 h2 h3
    subst h1; subst h2; subst h3
    simp only [if_true] at hz
    have hlen : (zs.take len).length = len := by rw [List.length_take]; omega
    refine ⟨zs.take len, ⟨_, _, by rw [hlen], by omega, hm, by simp, fun hn => ?_⟩, fun z hz' => hwz z (List.mem_of_mem_take hz')⟩
    rw [hlen] at hn
    have hc0 := hcell 0 (by omega)
    have ha : a = ⟨a.block, a.off, none⟩ := by
      have : a.add 0 = a := by simp [Addr.add]
      rw [this] at hc0
      exact addr_of_cells hc0
    refine ⟨a.block, a.off, by rw [← ha], ?_, fun j u hu => ?_⟩
    · have : a.add 0 = a := by simp [Addr.add]
      rw [this] at hc0
      exact World.block_lt_of_cell? _ _ hc0
    · rw [List.getElem?_map, List.getElem?_take] at hu
      split at hu
      · rename_i hj
        have hc1 := hcell j (by omega)
        rw [ha, add_none] at hc1
        rw [hc1]
        have : zs[j]? = some zs[j] := List.getElem?_eq_getElem (by omega)
        rw [this] at hu
        simp only [Option.map_some, Option.some.injEq] at hu
        rw [← hu]
        simp [List.getD_eq_getElem?_getD, this]
      · simp at hu

/-- Are the fields of a struct integers of these kinds? -/
def intFields (P : Program) (fs : Array Field) (ks : List IntKind) : Bool :=
  fs.size == ks.length && (List.range ks.length).all fun i => match fs[i]?, ks[i]? with
    | some f, some k => (match P.underlying f.type with | some (.int k') => k' == k | _ => false)
    | _, _ => false
theorem intFields_at {fs : Array Field} {ks : List IntKind} (h : intFields P fs ks = true) : fs.size = ks.length ∧ ∀ (i : Nat) (k : IntKind), ks[i]? = some k → ∃ f : Field, fs[i]? = some f ∧ P.underlying f.type = some (.int k) := by
  unfold intFields at h
  simp only [Bool.and_eq_true, beq_iff_eq] at h
  refine ⟨h.1, fun i k hk => ?_⟩
  have hi : i < ks.length := (List.getElem?_eq_some_iff.1 hk).1
  have h1 := List.all_eq_true.1 h.2 i (List.mem_range.2 hi)
  rw [hk] at h1
  cases hf : fs[i]? with
  | none => rw [hf] at h1; cases h1
  | some f =>
    rw [hf] at h1
    refine ⟨f, rfl, ?_⟩
    dsimp only at h1
    split at h1
    · rename_i k' hu
      rw [hu]
      rw [beq_iff_eq] at h1
      rw [h1]
    · cases h1

theorem ints_of_struct {base : Nat} {spare : Nat → Bool} {held : Bool} {fuel : Nat} {t : TypeId} {cs : List Value} {x : DataW H × List MemPlace} {fs : Array Field} {ks : List IntKind} (hs : P.underlying t = some (.struct fs)) (hone : oneCellFields P fs = true) (hC : P.cellsOf t = fs.size)
    (hk : intFields P fs ks = true) (h : DataW.trod enc P w base spare held fuel t cs = some x) :
    ∃ zs : List Int, zs.length = ks.length ∧ cs = List.zipWith Value.int ks zs ∧ ∀ (j : Nat) (k : IntKind) (z : Int), ks[j]? = some k → zs[j]? = some z → (Lit.int k z).wf = true := by
  obtain ⟨ys, n, _, _, hlen, hyl, hf⟩ := DataW.trod_struct hs h
  obtain ⟨hsz, hkf⟩ := intFields_at hk
  have each : ∀ j, j < ks.length → ∃ k z, ks[j]? = some k ∧ cs[j]? = some (.int k z) ∧ (Lit.int k z).wf = true := fun j hj => by
    have hkj : ks[j]? = some ks[j] := List.getElem?_eq_getElem hj
    obtain ⟨f, hfj, hu⟩ := hkf j _ hkj
    obtain ⟨ho, hc1⟩ := hone_of hone j f hfj
    have h1 := hf j f hfj
    have hjc : j < cs.length := by rw [hlen, hC, hsz]; exact hj
    rw [ho, hc1, List.drop_eq_getElem_cons hjc] at h1
    have hy : ys[j]? = some (ys[j]'(by rw [hyl, hsz]; exact hj)) := List.getElem?_eq_getElem _
    rw [hy] at h1
    obtain ⟨z, hz, _, hw⟩ := DataW.trod_int hu h1
    simp only [List.take_succ_cons, List.take_zero, List.cons.injEq, and_true] at hz
    exact ⟨ks[j], z, hkj, by rw [List.getElem?_eq_getElem hjc, hz], hw⟩
  have hcl : cs.length = ks.length := by rw [hlen, hC, hsz]
  let num : Value → Int := fun v => match v with | .int _ z => z | _ => 0
  refine ⟨cs.map num, by simp [hcl], ?_, ?_⟩
  · apply List.ext_getElem?
    intro j
    rcases Nat.lt_or_ge j ks.length with hj | hj
    · obtain ⟨k, z, h1, h2, _⟩ := each j hj
      rw [List.getElem?_zipWith, List.getElem?_map, h1, h2]
      rfl
    · rw [List.getElem?_eq_none (by omega), List.getElem?_eq_none (by simp; omega)]
  · intro j k z hkj hz
    have hj : j < ks.length := (List.getElem?_eq_some_iff.1 hkj).1
    obtain ⟨k', z', h1, h2, h3⟩ := each j hj
    rw [h1] at hkj
    injection hkj with hkj
    subst hkj
    rw [List.getElem?_map, h2] at hz
    injection hz with hz
    subst hz
    exact h3

/-- A struct of integers, by value. -/
theorem open_struct_ints {base0 : Nat} {t : TypeId} {v : Value} {d : DataW H} {p : List MemPlace} {fs : Array Field} (ks : List IntKind) (hs : P.underlying t = some (.struct fs)) (hone : oneCellFields P fs = true) (hC : P.cellsOf t = fs.size)
    (hk : intFields P fs ks = true) (hval : Value.okWide P w .any base0 t v) (h : DataW.Trod enc P w 0 (fun _ => true) true t v d p) :
    ∃ zs : List Int, zs.length = ks.length ∧ v = .agg (List.zipWith Value.int ks zs).toArray ∧ ∀ (j : Nat) (k : IntKind) (z : Int), ks[j]? = some k → zs[j]? = some z → (Lit.int k z).wf = true := by
  obtain ⟨cs, rfl, _⟩ := okWide_struct hs hval
  obtain ⟨fuel, hf⟩ := h
  obtain ⟨zs, h1, h2, h3⟩ := ints_of_struct hs hone hC hk hf
  refine ⟨zs, h1, ?_, h3⟩
  rw [← h2]
  rfl

/-- A slice of structs of integers: each row is a list of the fields' numbers. -/
theorem open_rows {base0 : Nat} {t e : TypeId} {v : Value} {d : DataW H} {p : List MemPlace} {fs : Array Field} (ks : List IntKind) (ht : P.underlying t = some (.slice e)) (hs : P.underlying e = some (.struct fs)) (hone : oneCellFields P fs = true) (hC : P.cellsOf e = fs.size)
    (hk : intFields P fs ks = true) (hpos : 0 < ks.length) (hval : Value.okWide P w .any base0 t v) (h : DataW.Trod enc P w 0 (fun _ => true) true t v d p) :
    ∃ l : List (List Int), Holds w (fun b => b < w.heap.size) ks.length v l.length (l.flatMap (List.zipWith Value.int ks)) ∧ ∀ zs ∈ l, zs.length = ks.length ∧ ∀ (j : Nat) (k : IntKind) (z : Int), ks[j]? = some k → zs[j]? = some z → (Lit.int k z).wf = true := by
  obtain ⟨a0, len, cap, rfl⟩ := okWide_slice ht hval
  obtain ⟨fuel, hf⟩ := h
  obtain ⟨hsz, _⟩ := intFields_at hk
  have hCk : P.cellsOf e = ks.length := by rw [hC, hsz]
  rcases Go.Deep.open_slice ht hf with ⟨hcs, _⟩ | ⟨a, len', cap', m, n, D, Pl, hcs, _, hl, hm, hmm, _, hrow⟩
  · have h0 : Value.slice a0 len cap = .slice none 0 0 := by simpa [Value.cells] using hcs
    injection h0 with h1 h2 h3
    subst h1; subst h2; subst h3
    exact ⟨[], ⟨_, _, rfl, Nat.le_refl _, by simp [maxLen], by simp, fun h => absurd h (by simp)⟩, by simp⟩
  · have h0 : Value.slice a0 len cap = .slice (some a) len' cap' := by simpa [Value.cells] using hcs
    injection h0 with h1 h2 h3
    subst h1; subst h2; subst h3
    simp only [if_true] at hmm
    have each : ∀ i, i < len → ∃ zs : List Int, zs.length = ks.length ∧ (∀ (j : Nat) (k : IntKind) (z : Int), ks[j]? = some k → zs[j]? = some z → (Lit.int k z).wf = true) ∧
        ∀ j u, (List.zipWith Value.int ks zs)[j]? = some u → w.cell? ((a.add (i * ks.length)).add j) = some u := fun i hi => by
      obtain ⟨cs', hc, htr⟩ := hrow i (by omega)
      obtain ⟨zs, h1, h2, h3⟩ := ints_of_struct hs hone hC hk htr
      refine ⟨zs, h1, h3, fun j u hu => ?_⟩
      rw [hCk] at hc
      obtain ⟨_, hcl, hat⟩ := World.cells?_some hc
      have hj : j < ks.length := by
        have := (List.getElem?_eq_some_iff.1 hu).1
        rw [List.length_zipWith] at this
        omega
      have := hat j hj
      rw [this, h2]
      exact hu
    obtain ⟨f, hfz⟩ : ∃ f : Nat → List Int, ∀ i, i < len → (f i).length = ks.length ∧ (∀ (j : Nat) (k : IntKind) (z : Int), ks[j]? = some k → (f i)[j]? = some z → (Lit.int k z).wf = true) ∧
        ∀ j u, (List.zipWith Value.int ks (f i))[j]? = some u → w.cell? ((a.add (i * ks.length)).add j) = some u :=
      ⟨fun i => if hi : i < len then Classical.choose (each i hi) else [], fun i hi => by simp only [dif_pos hi]; exact Classical.choose_spec (each i hi)⟩
    have hll : ((List.range len).map f).length = len := by simp
    have hfl : ∀ (k : Nat), k ≤ len → ((List.range k).map f |>.flatMap (List.zipWith Value.int ks)).length = k * ks.length := by
      intro k
      induction k with
      | zero => intro _; simp
      | succ k ih =>
        intro hk'
        rw [List.range_succ, List.map_append, List.flatMap_append, List.length_append, ih (by omega)]
        simp [(hfz k (by omega)).1, Nat.add_mul]
    have hat : ∀ (k : Nat), k ≤ len → ∀ j u, ((List.range k).map f |>.flatMap (List.zipWith Value.int ks))[j]? = some u → w.cell? (a.add j) = some u := by
      intro k
      induction k with
      | zero => intro _ j u hu; simp at hu
      | succ k ih =>
        intro hk' j u hu
        rw [List.range_succ, List.map_append, List.flatMap_append] at hu
        rcases Nat.lt_or_ge j (k * ks.length) with hj | hj
        · rw [List.getElem?_append_left (by rw [hfl k (by omega)]; exact hj)] at hu
          exact ih (by omega) j u hu
        · rw [List.getElem?_append_right (by rw [hfl k (by omega)]; exact hj), hfl k (by omega)] at hu
          simp only [List.map_cons, List.map_nil, List.flatMap_cons, List.flatMap_nil, List.append_nil] at hu
          have := (hfz k (by omega)).2.2 _ u hu
          rw [Go.Deep.add_add] at this
          rwa [show k * ks.length + (j - k * ks.length) = j by omega] at this
    refine ⟨(List.range len).map f, ⟨_, _, by rw [hll], by omega, hm, by rw [hfl len (Nat.le_refl _), hll], fun hn => ?_⟩, ?_⟩
    · rw [hll] at hn
      have h00 : ∃ u, w.cell? a = some u := by
        have hl0 := hfl len (Nat.le_refl _)
        have hpos' : 0 < len * ks.length := Nat.mul_pos hn hpos
        obtain ⟨u, hu⟩ : ∃ u, ((List.range len).map f |>.flatMap (List.zipWith Value.int ks))[0]? = some u := ⟨_, List.getElem?_eq_getElem (by omega)⟩
        have := hat len (Nat.le_refl _) 0 u hu
        exact ⟨u, by simpa [Addr.add] using this⟩
      obtain ⟨u0, hu0⟩ := h00
      have ha := addr_of_cells hu0
      refine ⟨a.block, a.off, by rw [← ha], World.block_lt_of_cell? _ _ hu0, fun j u hu => ?_⟩
      have := hat len (Nat.le_refl _) j u hu
      rw [ha, add_none] at this
      exact this
    · intro zs hz
      obtain ⟨i, hi, rfl⟩ := List.mem_map.1 hz
      exact ⟨(hfz i (List.mem_range.1 hi)).1, (hfz i (List.mem_range.1 hi)).2.1⟩
end
end Go.Proofs.YtpjmpkgllnomaaaDoor
