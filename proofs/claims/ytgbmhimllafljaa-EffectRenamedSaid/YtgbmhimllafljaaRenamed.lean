/- Contracts of Renamed, of effect and of its reference. -/
import Derived.Test.YtgbmhimllafljaaInstr
namespace Go.Proofs.Ytgbmhimllafljaa
open Go.RowKit
def renI (s : Int) (l : List Int) : Int := if s < 0 ∨ (l.length : Int) ≤ s then s else l.getD s.toNat 0
set_option maxHeartbeats 400000 in
theorem renamed_any (s : Int) (v : Value) (l : List Int) (S : Nat → Prop) (w : World) (hv : Holds w S 1 v l.length (l.map (Value.int .i64))) :
    Calls Try.prog 53 #[.int .i64 s, v] w fun e w' => e = .returned (.int .i64 (renI s l)) ∧ w = w' := by
  have hv0 := hv
  obtain ⟨A, c, rfl, hc1, hc2, _, _⟩ := hv
  have HV := hide hv0
  clear hv0
  unfold maxLen at hc2
  by_cases h1 : s < 0
  · have hr : renI s l = s := if_pos (.inl h1)
    rw [hr]
    clear hr
    go_enter Try.func53, Try.ntmps53
    go_wp2
    go_ret
    exact ⟨rfl, rfl⟩
  · by_cases h2 : (l.length : Int) ≤ s
    · have hr : renI s l = s := if_pos (.inr h2)
      rw [hr]
      clear hr
      go_enter Try.func53, Try.ntmps53
      go_wp2
      go_ret
      exact ⟨rfl, rfl⟩
    · have hlt : s.toNat < l.length := by omega
      have hr : renI s l = l[s.toNat] := by unfold renI; rw [if_neg (by omega)]; simp [hlt]
      rw [hr]
      obtain ⟨b, o, rfl, _, hx⟩ := HV.out.atInt hlt
      clear hr
      go_enter Try.func53, Try.ntmps53
      go_wp2
      go_ret
      exact ⟨rfl, rfl⟩
set_option maxHeartbeats 400000 in
theorem closure_any (s : Int) (v : Value) (q : Nat) (l : List Int) (S : Nat → Prop) (w : World) (hv : Holds w S 1 v l.length (l.map (Value.int .i64))) (hq : w.cell? ⟨q, 0, none⟩ = some v) :
    Calls Try.prog 52 #[.int .i64 s, .pointer (some ⟨q, 0, none⟩)] w fun e w' => e = .returned (.int .i64 (renI s l)) ∧ w = w' := by
  have hv0 := hv
  obtain ⟨A, c, rfl, hc1, hc2, _, _⟩ := hv
  have HV := hide hv0
  clear hv0
  unfold maxLen at hc2
  by_cases h1 : s < 0
  · have hr : renI s l = s := if_pos (.inl h1)
    rw [hr]
    clear hr
    go_enter Try.func52, Try.ntmps52
    go_wp2
    go_ret
    exact ⟨rfl, rfl⟩
  · by_cases h2 : (l.length : Int) ≤ s
    · have hr : renI s l = s := if_pos (.inr h2)
      rw [hr]
      clear hr
      go_enter Try.func52, Try.ntmps52
      go_wp2
      go_ret
      exact ⟨rfl, rfl⟩
    · have hlt : s.toNat < l.length := by omega
      have hr : renI s l = l[s.toNat] := by unfold renI; rw [if_neg (by omega)]; simp [hlt]
      rw [hr]
      obtain ⟨b, o, rfl, _, hx⟩ := HV.out.atInt hlt
      clear hr
      go_enter Try.func52, Try.ntmps52
      go_wp2
      go_ret
      exact ⟨rfl, rfl⟩
/-- the renamed instruction's operands -/
def renA (op a : Int) (l : List Int) : Int := if op = 16 ∨ op = 17 then renI a l else a
def renB (op b : Int) (l : List Int) : Int := if op = 15 ∨ op = 17 then renI b l else b
set_option maxHeartbeats 1000000 in
theorem Renamed_any (op a b c m : Int) (v : Value) (l : List Int) (w : World) (hv : Holds w (fun b => b < w.heap.size) 1 v l.length (l.map (Value.int .i64))) :
    Calls Try.prog 35 #[.agg #[.int .i64 op, .int .i64 a, .int .i64 b, .int .i64 c, .int .u64 m], v] w fun e w' => e = .returned (.agg #[.int .i64 op, .int .i64 (renA op a l), .int .i64 (renB op b l), .int .i64 c, .int .u64 m]) ∧ Below w.heap.size w w' := by
  have hv0 := hv
  obtain ⟨A, cp, rfl, _, _, _, _⟩ := hv
  have HV := hide hv0
  clear hv0
  have hB : ∀ W, Below w.heap.size w W → Holds W (fun b => b < w.heap.size) 1 (.slice A l.length cp) l.length (l.map (Value.int .i64)) := fun W h => HV.out.below h (fun _ h => h)
  have HB := hide hB
  clear hB
  by_cases h1 : op = 15
  · have hb : (op == 15) = true := by simpa using h1
    have ha1 : renA op a l = a := by unfold renA; rw [if_neg (by omega)]
    have ha2 : renB op b l = renI b l := by unfold renB; rw [if_pos (by omega)]
    rw [ha1, ha2]
    clear ha1 ha2 h1
    go_enter Try.func35, Try.ntmps35
    go_wp2_with (go_at_call 52; refine (closure_any _ _ _ l _ _ (HB.out _ (by repeat (first | exact Below.refl _ _ | refine Below.setCell ?_ (by simp; try omega) _ | refine Below.drew ?_ | refine Below.alloc ?_ (by simp; try omega) _))) (by go_simp)).mono ?_; rintro e w1 ⟨rfl, rfl⟩)
    exact bodyPost_ret (v := .agg #[.int .i64 op, .int .i64 a, .int .i64 (renI b l), .int .i64 c, .int .u64 m]) (by simp [results, Try.results35, go_sem]) rfl ⟨rfl, (by repeat (first | exact Below.refl _ _ | refine Below.setCell ?_ (by simp; try omega) _ | refine Below.drew ?_ | refine Below.alloc ?_ (by simp; try omega) _))⟩
  · have hb : (op == 15) = false := by simpa using h1
    by_cases h2 : op = 16
    · have hb2 : (op == 16) = true := by simpa using h2
      have ha1 : renA op a l = renI a l := by unfold renA; rw [if_pos (by omega)]
      have ha2 : renB op b l = b := by unfold renB; rw [if_neg (by omega)]
      rw [ha1, ha2]
      clear ha1 ha2 h1 h2
      go_enter Try.func35, Try.ntmps35
      go_wp2_with (go_at_call 52; refine (closure_any _ _ _ l _ _ (HB.out _ (by repeat (first | exact Below.refl _ _ | refine Below.setCell ?_ (by simp; try omega) _ | refine Below.drew ?_ | refine Below.alloc ?_ (by simp; try omega) _))) (by go_simp)).mono ?_; rintro e w1 ⟨rfl, rfl⟩)
      exact bodyPost_ret (v := .agg #[.int .i64 op, .int .i64 (renI a l), .int .i64 b, .int .i64 c, .int .u64 m]) (by simp [results, Try.results35, go_sem]) rfl ⟨rfl, (by repeat (first | exact Below.refl _ _ | refine Below.setCell ?_ (by simp; try omega) _ | refine Below.drew ?_ | refine Below.alloc ?_ (by simp; try omega) _))⟩
    · have hb2 : (op == 16) = false := by simpa using h2
      by_cases h3 : op = 17
      · have hb3 : (op == 17) = true := by simpa using h3
        have ha1 : renA op a l = renI a l := by unfold renA; rw [if_pos (by omega)]
        have ha2 : renB op b l = renI b l := by unfold renB; rw [if_pos (by omega)]
        rw [ha1, ha2]
        clear ha1 ha2 h1 h2 h3
        go_enter Try.func35, Try.ntmps35
        go_wp2_with fail
        go_region_with (go_at_call 52; refine (closure_any _ _ _ l _ _ (HB.out _ (by repeat (first | exact Below.refl _ _ | refine Below.setCell ?_ (by simp; try omega) _ | refine Below.drew ?_ | refine Below.alloc ?_ (by simp; try omega) _))) (by go_simp)).mono ?_; rintro e w1 ⟨rfl, rfl⟩)
        all_goals
          go_wp2
          exact bodyPost_ret (v := .agg #[.int .i64 op, .int .i64 (renI a l), .int .i64 (renI b l), .int .i64 c, .int .u64 m]) (by simp [results, Try.results35, go_sem]) rfl ⟨rfl, (by repeat (first | exact Below.refl _ _ | refine Below.setCell ?_ (by simp; try omega) _ | refine Below.drew ?_ | refine Below.alloc ?_ (by simp; try omega) _))⟩
      · have hb3 : (op == 17) = false := by simpa using h3
        have ha1 : renA op a l = a := by unfold renA; rw [if_neg (by omega)]
        have ha2 : renB op b l = b := by unfold renB; rw [if_neg (by omega)]
        rw [ha1, ha2]
        clear ha1 ha2 h1 h2 h3
        go_enter Try.func35, Try.ntmps35
        go_wp2
        exact bodyPost_ret (v := .agg #[.int .i64 op, .int .i64 a, .int .i64 b, .int .i64 c, .int .u64 m]) (by simp [results, Try.results35, go_sem]) rfl ⟨rfl, (by repeat (first | exact Below.refl _ _ | refine Below.setCell ?_ (by simp; try omega) _ | refine Below.drew ?_ | refine Below.alloc ?_ (by simp; try omega) _))⟩
set_option maxHeartbeats 1000000 in
theorem rRenamed_any (op a b c m : Int) (v : Value) (l : List Int) (w : World) (hv : Holds w (fun b => b < w.heap.size) 1 v l.length (l.map (Value.int .i64))) :
    Calls Try.prog 36 #[.agg #[.int .i64 op, .int .i64 a, .int .i64 b, .int .i64 c, .int .u64 m], v] w fun e w' => e = .returned (.agg #[.int .i64 op, .int .i64 (renA op a l), .int .i64 (renB op b l), .int .i64 c, .int .u64 m]) ∧ Below w.heap.size w w' := by
  have hv0 := hv
  obtain ⟨A, cp, rfl, _, _, _, _⟩ := hv
  have HV := hide hv0
  clear hv0
  have hB : ∀ W, Below w.heap.size w W → Holds W (fun b => b < w.heap.size) 1 (.slice A l.length cp) l.length (l.map (Value.int .i64)) := fun W h => HV.out.below h (fun _ h => h)
  have HB := hide hB
  clear hB
  by_cases h1 : op = 15
  · have hb : (op == 15) = true := by simpa using h1
    have ha1 : renA op a l = a := by unfold renA; rw [if_neg (by omega)]
    have ha2 : renB op b l = renI b l := by unfold renB; rw [if_pos (by omega)]
    rw [ha1, ha2]
    clear ha1 ha2 h1
    go_enter Try.func36, Try.ntmps36
    go_wp2_with (go_at_call 53; refine (renamed_any _ _ l _ _ (HB.out _ (by repeat (first | exact Below.refl _ _ | refine Below.setCell ?_ (by simp; try omega) _ | refine Below.drew ?_ | refine Below.alloc ?_ (by simp; try omega) _)))).mono ?_; rintro e w1 ⟨rfl, rfl⟩)
    exact bodyPost_ret (v := .agg #[.int .i64 op, .int .i64 a, .int .i64 (renI b l), .int .i64 c, .int .u64 m]) (by simp [results, Try.results36, go_sem]) rfl ⟨rfl, (by repeat (first | exact Below.refl _ _ | refine Below.setCell ?_ (by simp; try omega) _ | refine Below.drew ?_ | refine Below.alloc ?_ (by simp; try omega) _))⟩
  · have hb : (op == 15) = false := by simpa using h1
    by_cases h2 : op = 16
    · have hb2 : (op == 16) = true := by simpa using h2
      have ha1 : renA op a l = renI a l := by unfold renA; rw [if_pos (by omega)]
      have ha2 : renB op b l = b := by unfold renB; rw [if_neg (by omega)]
      rw [ha1, ha2]
      clear ha1 ha2 h1 h2
      go_enter Try.func36, Try.ntmps36
      go_wp2_with (go_at_call 53; refine (renamed_any _ _ l _ _ (HB.out _ (by repeat (first | exact Below.refl _ _ | refine Below.setCell ?_ (by simp; try omega) _ | refine Below.drew ?_ | refine Below.alloc ?_ (by simp; try omega) _)))).mono ?_; rintro e w1 ⟨rfl, rfl⟩)
      exact bodyPost_ret (v := .agg #[.int .i64 op, .int .i64 (renI a l), .int .i64 b, .int .i64 c, .int .u64 m]) (by simp [results, Try.results36, go_sem]) rfl ⟨rfl, (by repeat (first | exact Below.refl _ _ | refine Below.setCell ?_ (by simp; try omega) _ | refine Below.drew ?_ | refine Below.alloc ?_ (by simp; try omega) _))⟩
    · have hb2 : (op == 16) = false := by simpa using h2
      by_cases h3 : op = 17
      · have hb3 : (op == 17) = true := by simpa using h3
        have ha1 : renA op a l = renI a l := by unfold renA; rw [if_pos (by omega)]
        have ha2 : renB op b l = renI b l := by unfold renB; rw [if_pos (by omega)]
        rw [ha1, ha2]
        clear ha1 ha2 h1 h2 h3
        go_enter Try.func36, Try.ntmps36
        go_wp2_with fail
        go_region_with (go_at_call 53; refine (renamed_any _ _ l _ _ (HB.out _ (by repeat (first | exact Below.refl _ _ | refine Below.setCell ?_ (by simp; try omega) _ | refine Below.drew ?_ | refine Below.alloc ?_ (by simp; try omega) _)))).mono ?_; rintro e w1 ⟨rfl, rfl⟩)
        all_goals
          go_wp2
          exact bodyPost_ret (v := .agg #[.int .i64 op, .int .i64 (renI a l), .int .i64 (renI b l), .int .i64 c, .int .u64 m]) (by simp [results, Try.results36, go_sem]) rfl ⟨rfl, (by repeat (first | exact Below.refl _ _ | refine Below.setCell ?_ (by simp; try omega) _ | refine Below.drew ?_ | refine Below.alloc ?_ (by simp; try omega) _))⟩
      · have hb3 : (op == 17) = false := by simpa using h3
        have ha1 : renA op a l = a := by unfold renA; rw [if_neg (by omega)]
        have ha2 : renB op b l = b := by unfold renB; rw [if_neg (by omega)]
        rw [ha1, ha2]
        clear ha1 ha2 h1 h2 h3
        go_enter Try.func36, Try.ntmps36
        go_wp2
        exact bodyPost_ret (v := .agg #[.int .i64 op, .int .i64 a, .int .i64 b, .int .i64 c, .int .u64 m]) (by simp [results, Try.results36, go_sem]) rfl ⟨rfl, (by repeat (first | exact Below.refl _ _ | refine Below.setCell ?_ (by simp; try omega) _ | refine Below.drew ?_ | refine Below.alloc ?_ (by simp; try omega) _))⟩
end Go.Proofs.Ytgbmhimllafljaa
