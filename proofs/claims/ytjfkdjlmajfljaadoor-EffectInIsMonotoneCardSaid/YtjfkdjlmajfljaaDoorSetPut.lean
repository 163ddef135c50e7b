/- Sets in memory: put. -/
import Derived.Test.YtjfkdjlmajfljaaDoorSetAdd
import Derived.Laws.Bits64b
namespace Go.Proofs.YtjfkdjlmajfljaaDoor
open Go.ChangeShapes Go.WideShapes Go.ChangeAt Go.RowKit Go.Deep
theorem within_is {n : Int} {b : Bool} (h : inB n = b) (w : World) : Calls Tryd.prog 67 #[.int .i64 n] w fun e w' => e = .returned (.bool b) ∧ w = w' := by
  subst h
  unfold inB
  by_cases h1 : 0 ≤ n
  · by_cases h2 : n < 512
    all_goals
      go_enter Tryd.func67, Tryd.ntmps67
      go_wp2
      go_ret
      simp [h1, h2]
  · go_enter Tryd.func67, Tryd.ntmps67
    go_wp2
    go_ret
    exact ⟨by simp; omega, rfl⟩
/-- The block g holds the eight words W. -/
def WordsAt (w : World) (g : Nat) (W : Nat → Nat) : Prop := ∃ ws, w.heap[g]? = some (.cells ws 88) ∧ ws.size = 8 ∧ ∀ q, q < 8 → ws[q]? = some (.int .u64 (W q))
theorem WordsAt.lt {w : World} {g : Nat} {W : Nat → Nat} (h : WordsAt w g W) : g < w.heap.size := by
  obtain ⟨ws, h, _⟩ := h
  rcases Nat.lt_or_ge g w.heap.size with hlt | hge
  · exact hlt
  · rw [Array.getElem?_eq_none hge] at h; cases h
theorem WordsAt.cell {w : World} {g : Nat} {W : Nat → Nat} (h : WordsAt w g W) {q : Nat} (hq : q < 8) : w.cell? ⟨g, q, none⟩ = some (.int .u64 (W q)) := by
  obtain ⟨ws, h, _, hw⟩ := h
  simp [World.cell?, h, hw q hq]
theorem WordsAt.frozen {w : World} {g : Nat} {W : Nat → Nat} (h : WordsAt w g W) (q : Nat) : w.frozen? ⟨g, q, none⟩ = false := by
  obtain ⟨ws, h, _, _⟩ := h
  simp [World.frozen?, h]
theorem WordsAt.set {w : World} {g : Nat} {W : Nat → Nat} (h : WordsAt w g W) {q : Nat} (hq : q < 8) (v : Nat) : WordsAt (w.setCell ⟨g, q, none⟩ (.int .u64 v)) g (fun j => if j = q then v else W j) := by
  obtain ⟨ws, h, hs, hw⟩ := h
  refine ⟨_, heap_setCell_same _ _ _ _ _ _ h, by simpa using hs, fun j hj => ?_⟩
  rw [Array.getElem?_setIfInBounds]
  by_cases e : q = j
  · subst e; simp [hs, hq]
  · have e2 : ¬ j = q := fun h => e h.symm
    simp [e, e2, hw j hj]
theorem WordsAt.drew {w : World} {g : Nat} {W : Nat → Nat} (h : WordsAt w g W) : WordsAt w.drew g W := h
theorem WordsAt.keep {w w' : World} {g : Nat} {W : Nat → Nat} {K : Nat → Prop} (h : WordsAt w g W) (hk : Keeps K w w') (hg : K g) : WordsAt w' g W := by
  have hlt := h.lt
  obtain ⟨ws, h, r⟩ := h
  exact ⟨ws, by rw [hk.block g hlt hg]; exact h, r⟩
set_option maxHeartbeats 1000000 in
theorem put_in (g q r : Nat) (n : Int) (W : Nat → Nat) (w : World) (h : WordsAt w g W) (h0 : 0 ≤ n) (h1 : n < 512) (hq : n / 64 = (q : Int)) (hr : n % 64 = (r : Int)) (V : Nat) (hV : bits BinOp.or IntKind.u64 (W q) (IntKind.u64.wrap (2 ^ r)) = V) :
    Calls Tryd.prog 61 #[.pointer (some ⟨g, 0, none⟩), .int .i64 n, .bool true] w fun e w' => e = .returned (.tuple #[]) ∧ WordsAt w' g (fun j => if j = q then V else W j) ∧ Keeps (fun b => b ≠ g) w w' := by
  have hin : inB n = true := by simp [inB, h0, h1]
  have HIN := hide hin
  have hq8 : q < 8 := by omega
  have hr8 : r < 64 := by omega
  have c0 := h.cell hq8
  have hgs := h.lt
  have hfz := h.frozen q
  have H := hide h
  have HV := hide hV
  clear hin h hV
  go_enter Tryd.func61, Tryd.ntmps61
  go_wp2_with (go_at_call 67; refine (within_is HIN.out _).mono ?_; rintro e w' ⟨rfl, rfl⟩)
  go_region
  go_wp2
  go_end0
  refine ⟨rfl, ?_, ((Keeps.refl _ _).setCell (.inl (fun h => h rfl)) _).drew⟩
  have := (H.out.set hq8 V).drew
  rw [← HV.out] at this
  exact this
set_option maxHeartbeats 1000000 in
theorem put_out (g q r : Nat) (n : Int) (W : Nat → Nat) (w : World) (h : WordsAt w g W) (h0 : 0 ≤ n) (h1 : n < 512) (hq : n / 64 = (q : Int)) (hr : n % 64 = (r : Int)) (V : Nat) (hV : bits BinOp.andNot IntKind.u64 (W q) (IntKind.u64.wrap (2 ^ r)) = V) :
    Calls Tryd.prog 61 #[.pointer (some ⟨g, 0, none⟩), .int .i64 n, .bool false] w fun e w' => e = .returned (.tuple #[]) ∧ WordsAt w' g (fun j => if j = q then V else W j) ∧ Keeps (fun b => b ≠ g) w w' := by
  have hin : inB n = true := by simp [inB, h0, h1]
  have HIN := hide hin
  have hq8 : q < 8 := by omega
  have hr8 : r < 64 := by omega
  have c0 := h.cell hq8
  have hgs := h.lt
  have hfz := h.frozen q
  have H := hide h
  have HV := hide hV
  clear hin h hV
  go_enter Tryd.func61, Tryd.ntmps61
  go_wp2_with (go_at_call 67; refine (within_is HIN.out _).mono ?_; rintro e w' ⟨rfl, rfl⟩)
  go_region
  go_wp2
  go_end0
  refine ⟨rfl, ?_, ((Keeps.refl _ _).setCell (.inl (fun h => h rfl)) _).drew⟩
  have := (H.out.set hq8 V).drew
  rw [← HV.out] at this
  exact this
set_option maxHeartbeats 1000000 in
theorem put_not (A : Option Addr) (n : Int) (b : Bool) (w : World) (hn : inB n = false) :
    Calls Tryd.prog 61 #[.pointer A, .int .i64 n, .bool b] w fun e w' => e = .returned (.tuple #[]) ∧ w = w' := by
  have HIN := hide hn
  clear hn
  obtain ⟨m, hm⟩ : ∃ m : Nat, IntKind.u64.wrap n = (m : Int) := by rw [IntKind.wrap_u64]; exact ⟨(n % 18446744073709551616).toNat, by omega⟩
  obtain ⟨r, hr⟩ : ∃ r : Nat, (m : Int) % 64 = (r : Int) := ⟨m % 64, by omega⟩
  have hr64 : r < 64 := by omega
  go_enter Tryd.func61, Tryd.ntmps61
  go_wp2_with (go_at_call 67; refine (within_is HIN.out _).mono ?_; rintro e w' ⟨rfl, rfl⟩)
  go_end0
  exact ⟨rfl, rfl⟩
end Go.Proofs.YtjfkdjlmajfljaaDoor
