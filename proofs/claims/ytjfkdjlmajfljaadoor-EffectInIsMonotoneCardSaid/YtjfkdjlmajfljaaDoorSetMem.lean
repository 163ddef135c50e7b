/- Sets in memory: of, has. -/
import Derived.Test.YtjfkdjlmajfljaaDoorSetPut
import Derived.Test.YtjfkdjlmajfljaaDoorBits
import Derived.BigQuiet
import Derived.Deep.QuietTactic
namespace Go.Proofs.YtjfkdjlmajfljaaDoor
open Go.ChangeShapes Go.WideShapes Go.ChangeAt Go.RowKit Go.Deep
def SetAt (w : World) (g : Nat) (p : Nat → Bool) : Prop := WordsAt w g (wordOf p)
theorem WordsAt.congr {w : World} {g : Nat} {W W' : Nat → Nat} (h : WordsAt w g W) (e : ∀ j, j < 8 → W j = W' j) : WordsAt w g W' := by
  obtain ⟨ws, h1, h2, h3⟩ := h
  exact ⟨ws, h1, h2, fun q hq => by rw [← e q hq]; exact h3 q hq⟩
def putI (p : Nat → Bool) (n : Int) (b : Bool) : Nat → Bool := if inB n then putP p n.toNat b else p
theorem put_any (g : Nat) (n : Int) (b : Bool) (p : Nat → Bool) (w : World) (h : SetAt w g p) :
    Calls Tryd.prog 61 #[.pointer (some ⟨g, 0, none⟩), .int .i64 n, .bool b] w fun e w' => e = .returned (.tuple #[]) ∧ SetAt w' g (putI p n b) ∧ Keeps (fun b => b ≠ g) w w' := by
  cases hin : inB n
  · refine (put_not _ n b w hin).mono fun e w' ⟨h1, h2⟩ => ?_
    subst h2
    refine ⟨h1, ?_, Keeps.refl _ _⟩
    unfold putI; rw [hin]; exact h
  · have h01 : 0 ≤ n ∧ n < 512 := by simpa [inB] using hin
    obtain ⟨m, rfl⟩ := Int.eq_ofNat_of_zero_le h01.1
    have hm : m = 64 * (m / 64) + m % 64 := by omega
    have hr : m % 64 < 64 := by omega
    have fin : ∀ b, ∀ w', WordsAt w' g (fun j => if j = m / 64 then wordOf (putP p m b) (m / 64) else wordOf p j) → SetAt w' g (putI p (m : Int) b) := fun b w' h => by
      unfold putI; rw [hin]
      refine h.congr fun j _ => ?_
      by_cases e : j = m / 64
      · rw [if_pos e, e]; rfl
      · rw [if_neg e]; exact (wordOf_put_other p rfl e).symm
    cases b
    · exact (put_out g (m / 64) (m % 64) m _ w h h01.1 h01.2 (by omega) (by omega) _ (put_word_out p hm hr)).mono fun e w' ⟨h1, h2, h3⟩ => ⟨h1, fin _ _ h2, h3⟩
    · exact (put_in g (m / 64) (m % 64) m _ w h h01.1 h01.2 (by omega) (by omega) _ (put_word_in p hm hr)).mono fun e w' ⟨h1, h2, h3⟩ => ⟨h1, fin _ _ h2, h3⟩
/-- The elements of a list, as a predicate. -/
def memP (l : List Int) : Nat → Bool := fun k => decide ((k : Int) ∈ l) && decide (k < 512)
theorem memP_nil : memP [] = fun _ => false := by funext k; simp [memP]
theorem memP_snoc (l : List Int) (n : Int) : putI (memP l) n true = memP (l ++ [n]) := by
  funext k
  unfold putI
  cases h : inB n
  · rw [if_neg (by simp)]
    have : ¬ (0 ≤ n ∧ n < 512) := by simpa [inB] using h
    unfold memP
    by_cases h2 : (k : Int) = n
    · have : ¬ k < 512 := by omega
      simp [this]
    · simp [h2]
  · have h01 : 0 ≤ n ∧ n < 512 := by simpa [inB] using h
    rw [if_pos rfl]
    unfold putP memP
    by_cases h2 : k = n.toNat
    · have e : (k : Int) = n := by omega
      have : k < 512 := by omega
      simp [h2]; omega
    · have e : ¬ (k : Int) = n := by omega
      simp [h2, e]
theorem wordOf_false (j : Nat) : wordOf (fun _ => false) j = 0 := wordOf_eq (by omega) (fun i _ => by simp)
theorem SetAt.keep {w w' : World} {g : Nat} {p : Nat → Bool} {K : Nat → Prop} (h : SetAt w g p) (hk : Keeps K w w') (hg : K g) : SetAt w' g p := WordsAt.keep h hk hg
theorem SetAt.below {w w' : World} {g B : Nat} {p : Nat → Bool} (h : SetAt w g p) (hb : Below B w w') (hg : g < B) : SetAt w' g p := by
  obtain ⟨ws, h, r⟩ := h
  exact ⟨ws, by rw [hb.block g hg]; exact h, r⟩
theorem SetAt.new (w : World) : SetAt (w.alloc (.cells #[.int .u64 0, .int .u64 0, .int .u64 0, .int .u64 0, .int .u64 0, .int .u64 0, .int .u64 0, .int .u64 0] 88)) w.heap.size (fun _ => false) := by
  refine ⟨#[.int .u64 0, .int .u64 0, .int .u64 0, .int .u64 0, .int .u64 0, .int .u64 0, .int .u64 0, .int .u64 0], Array.getElem?_push_size, rfl, fun q hq => ?_⟩
  rw [wordOf_false]
  match q, hq with
  | 0, _ | 1, _ | 2, _ | 3, _ | 4, _ | 5, _ | 6, _ | 7, _ => rfl
set_option maxHeartbeats 1000000 in
theorem of_any (v : Value) (l : List Int) (w : World) (hv : Holds w (fun b => b < w.heap.size) 1 v l.length (l.map (Value.int .i64))) :
    Calls Tryd.prog 60 #[v] w fun e w' => e = .returned (.pointer (some ⟨w.heap.size, 0, none⟩)) ∧ SetAt w' w.heap.size (memP l) ∧ Below w.heap.size w w' := by
  have HV := hide hv
  have HN := hide (SetAt.new w)
  obtain ⟨A, c, rfl, hc1, hc2, _, _⟩ := hv
  unfold maxLen at hc2
  go_enter Tryd.func60, Tryd.ntmps60
  go_wp2
  go_loopw [10] (fun i wr => ∃ k : Nat, k ≤ l.length ∧ i = .int .i64 k ∧ Hid (SetAt wr w.heap.size (memP (l.take k))) ∧ Hid (Below w.heap.size w wr)) (fun i _ => l.length - (intOf i).toNat)
  case atStart => exact ⟨0, by omega, rfl, hide (by rw [List.take_zero, memP_nil]; exact HN.out), hide ((Below.refl _ _).alloc (Nat.le_refl _) _)⟩
  case round =>
    obtain ⟨k, hk, rfl, HS, HB⟩ := hrel
    by_cases hlt : k < l.length
    · have hd : (k : Int) < (l.length : Int) := by omega
      obtain ⟨b, o, rfl, hSb, hx⟩ := (HV.out.below HB.out (fun b h => h)).atInt hlt
      go_wp2_with fail
      refine (put_any _ _ _ _ _ HS.out).mono ?_
      rintro e w' ⟨rfl, hs, hkp⟩
      rw [memP_snoc, ← List.take_succ_eq_append_getElem hlt] at hs
      have HS2 := hide hs
      have HB2 := hide (HB.out.trans (hkp.below (fun b hb => by omega) HB.out.size))
      clear hs hkp
      go_wp2
      go_roundw
      case rel => exact ⟨k + 1, by omega, by go_num, HS2, HB2⟩
      case measure => simp only [intOf]; omega
    · have hd : ¬ (k : Int) < (l.length : Int) := by omega
      go_wp2
      go_ret
      exact ⟨rfl, by have := HS.out; rwa [List.take_of_length_le (by omega)] at this, HB.out⟩
set_option maxHeartbeats 1000000 in
theorem has_in (g q r : Nat) (n : Int) (p : Nat → Bool) (w : World) (h : SetAt w g p) (h0 : 0 ≤ n) (h1 : n < 512) (hq : n / 64 = (q : Int)) (hr : n % 64 = (r : Int)) :
    Calls Tryd.prog 68 #[.pointer (some ⟨g, 0, none⟩), .int .i64 n] w fun e w' => e = .returned (.bool (p n.toNat)) ∧ w = w' := by
  have hin : inB n = true := by simp [inB, h0, h1]
  have HIN := hide hin
  have hq8 : q < 8 := by omega
  have hr8 : r < 64 := by omega
  have c0 := WordsAt.cell h hq8
  have hgs := WordsAt.lt h
  have HW := hide (has_word p (q := q) (r := r) (n := n.toNat) (by omega) hr8)
  clear hin h
  go_enter Tryd.func68, Tryd.ntmps68
  go_wp2_with (go_at_call 67; refine (within_is HIN.out _).mono ?_; rintro e w' ⟨rfl, rfl⟩)
  go_ret
  exact ⟨by rw [← HW.out]; rfl, rfl⟩
set_option maxHeartbeats 1000000 in
theorem has_not (A : Option Addr) (n : Int) (w : World) (hn : inB n = false) :
    Calls Tryd.prog 68 #[.pointer A, .int .i64 n] w fun e w' => e = .returned (.bool false) ∧ w = w' := by
  have HIN := hide hn
  clear hn
  go_enter Tryd.func68, Tryd.ntmps68
  go_wp2_with (go_at_call 67; refine (within_is HIN.out _).mono ?_; rintro e w' ⟨rfl, rfl⟩)
  go_ret
  exact ⟨rfl, rfl⟩
def hasI (p : Nat → Bool) (n : Int) : Bool := inB n && p n.toNat
theorem has_any (g : Nat) (n : Int) (p : Nat → Bool) (w : World) (h : SetAt w g p) :
    Calls Tryd.prog 68 #[.pointer (some ⟨g, 0, none⟩), .int .i64 n] w fun e w' => e = .returned (.bool (hasI p n)) ∧ w = w' := by
  cases hin : inB n
  · exact (has_not _ n w hin).mono fun e w' ⟨h1, h2⟩ => ⟨by rw [h1]; simp [hasI, hin], h2⟩
  · have h01 : 0 ≤ n ∧ n < 512 := by simpa [inB] using hin
    exact (has_in g (n / 64).toNat (n % 64).toNat n p w h h01.1 h01.2 (by omega) (by omega)).mono fun e w' ⟨h1, h2⟩ => ⟨by rw [h1]; simp [hasI, hin], h2⟩
end Go.Proofs.YtjfkdjlmajfljaaDoor
