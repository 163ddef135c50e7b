/- The contract of effect.Renamed (a closure), beside the lifted text. -/
import Derived.Test.YtlhaoijkffhafaaGreatDoorLiftA
import Derived.Test.YtlhaoijkffhafaaGreatDoorGr
import Derived.WalkKit
import Derived.WalkSpells
import Derived.WalkLawsBesides
import Derived.RegionTactic
import Derived.StillTailTactics
import Derived.Deep.RegionWith
set_option linter.unusedVariables false
namespace Go.Proofs.YtlhaoijkffhafaaGreatDoor
open Go.RowKit
def renI (s : Int) (l : List Int) : Int := if s < 0 ∨ (l.length : Int) ≤ s then s else l.getD s.toNat 0
set_option maxHeartbeats 400000 in
theorem closure_any (s : Int) (v : Value) (q : Nat) (l : List Int) (S : Nat → Prop) (w : World) (hv : Holds w S 1 v l.length (l.map (Value.int .i64))) (hq : w.cell? ⟨q, 0, none⟩ = some v) :
    Calls Tryz.prog 55 #[.int .i64 s, .pointer (some ⟨q, 0, none⟩)] w fun e w' => e = .returned (.int .i64 (renI s l)) ∧ w = w' := by
  have hv0 := hv
  obtain ⟨A, c, rfl, hc1, hc2, _, _⟩ := hv
  have HV := hide hv0
  clear hv0
  unfold maxLen at hc2
  by_cases h1 : s < 0
  · have hr : renI s l = s := if_pos (.inl h1)
    rw [hr]
    clear hr
    go_enter Tryz.func55, Tryz.ntmps55
    go_wp2
    go_ret
    exact ⟨rfl, rfl⟩
  · by_cases h2 : (l.length : Int) ≤ s
    · have hr : renI s l = s := if_pos (.inr h2)
      rw [hr]
      clear hr
      go_enter Tryz.func55, Tryz.ntmps55
      go_wp2
      go_ret
      exact ⟨rfl, rfl⟩
    · have hlt : s.toNat < l.length := by omega
      have hr : renI s l = l[s.toNat] := by unfold renI; rw [if_neg (by omega)]; simp [hlt]
      rw [hr]
      obtain ⟨b, o, rfl, _, hx⟩ := HV.out.atInt hlt
      clear hr
      go_enter Tryz.func55, Tryz.ntmps55
      go_wp2
      go_ret
      exact ⟨rfl, rfl⟩
/-- the renamed instruction's operands -/
def renA (op a : Int) (l : List Int) : Int := if op = 16 ∨ op = 17 then renI a l else a
def renB (op b : Int) (l : List Int) : Int := if op = 15 ∨ op = 17 then renI b l else b
set_option maxHeartbeats 1000000 in
theorem Renamed_any (op a b c m : Int) (v : Value) (l : List Int) (w : World) (hv : Holds w (fun b => b < w.heap.size) 1 v l.length (l.map (Value.int .i64))) :
    Calls Tryz.prog 34 #[.agg #[.int .i64 op, .int .i64 a, .int .i64 b, .int .i64 c, .int .u64 m], v] w fun e w' => e = .returned (.agg #[.int .i64 op, .int .i64 (renA op a l), .int .i64 (renB op b l), .int .i64 c, .int .u64 m]) ∧ Below w.heap.size w w' := by
  have hv0 := hv
  obtain ⟨A, cp, rfl, _, _, _, _⟩ := hv
  have HV := hide hv0
  clear hv0
  have hB : ∀ W, Below w.heap.size w W → Holds W (fun b => b < w.heap.size) 1 (.slice A l.length cp) l.length (l.map (Value.int .i64)) := fun W h => HV.out.below h (fun _ h => h)
  have HB := hide hB
  clear hB
  by_cases h1 : op = 15
  · have hb : (op == 15) = true := by simpa using h1
    have ha1 : renA op a l = a := by unfold renA; rw [if_neg (by omega)]
    have ha2 : renB op b l = renI b l := by unfold renB; rw [if_pos (by omega)]
    rw [ha1, ha2]
    clear ha1 ha2 h1
    go_enter Tryz.func34, Tryz.ntmps34
    go_wp2_with (go_at_call 55; refine (closure_any _ _ _ l _ _ (HB.out _ (by repeat (first | exact Below.refl _ _ | refine Below.setCell ?_ (by simp; try omega) _ | refine Below.drew ?_ | refine Below.alloc ?_ (by simp; try omega) _))) (by go_simp)).mono ?_; rintro e w1 ⟨rfl, rfl⟩)
    exact bodyPost_ret (v := .agg #[.int .i64 op, .int .i64 a, .int .i64 (renI b l), .int .i64 c, .int .u64 m]) (by simp [results, Tryz.results34, go_sem]) rfl ⟨rfl, (by repeat (first | exact Below.refl _ _ | refine Below.setCell ?_ (by simp; try omega) _ | refine Below.drew ?_ | refine Below.alloc ?_ (by simp; try omega) _))⟩
  · have hb : (op == 15) = false := by simpa using h1
    by_cases h2 : op = 16
    · have hb2 : (op == 16) = true := by simpa using h2
      have ha1 : renA op a l = renI a l := by unfold renA; rw [if_pos (by omega)]
      have ha2 : renB op b l = b := by unfold renB; rw [if_neg (by omega)]
      rw [ha1, ha2]
      clear ha1 ha2 h1 h2
      go_enter Tryz.func34, Tryz.ntmps34
      go_wp2_with (go_at_call 55; refine (closure_any _ _ _ l _ _ (HB.out _ (by repeat (first | exact Below.refl _ _ | refine Below.setCell ?_ (by simp; try omega) _ | refine Below.drew ?_ | refine Below.alloc ?_ (by simp; try omega) _))) (by go_simp)).mono ?_; rintro e w1 ⟨rfl, rfl⟩)
      exact bodyPost_ret (v := .agg #[.int .i64 op, .int .i64 (renI a l), .int .i64 b, .int .i64 c, .int .u64 m]) (by simp [results, Tryz.results34, go_sem]) rfl ⟨rfl, (by repeat (first | exact Below.refl _ _ | refine Below.setCell ?_ (by simp; try omega) _ | refine Below.drew ?_ | refine Below.alloc ?_ (by simp; try omega) _))⟩
    · have hb2 : (op == 16) = false := by simpa using h2
      by_cases h3 : op = 17
      · have hb3 : (op == 17) = true := by simpa using h3
        have ha1 : renA op a l = renI a l := by unfold renA; rw [if_pos (by omega)]
        have ha2 : renB op b l = renI b l := by unfold renB; rw [if_pos (by omega)]
        rw [ha1, ha2]
        clear ha1 ha2 h1 h2 h3
        go_enter Tryz.func34, Tryz.ntmps34
        go_wp2_with fail
        go_region_with (go_at_call 55; refine (closure_any _ _ _ l _ _ (HB.out _ (by repeat (first | exact Below.refl _ _ | refine Below.setCell ?_ (by simp; try omega) _ | refine Below.drew ?_ | refine Below.alloc ?_ (by simp; try omega) _))) (by go_simp)).mono ?_; rintro e w1 ⟨rfl, rfl⟩)
        all_goals
          go_wp2
          exact bodyPost_ret (v := .agg #[.int .i64 op, .int .i64 (renI a l), .int .i64 (renI b l), .int .i64 c, .int .u64 m]) (by simp [results, Tryz.results34, go_sem]) rfl ⟨rfl, (by repeat (first | exact Below.refl _ _ | refine Below.setCell ?_ (by simp; try omega) _ | refine Below.drew ?_ | refine Below.alloc ?_ (by simp; try omega) _))⟩
      · have hb3 : (op == 17) = false := by simpa using h3
        have ha1 : renA op a l = a := by unfold renA; rw [if_neg (by omega)]
        have ha2 : renB op b l = b := by unfold renB; rw [if_neg (by omega)]
        rw [ha1, ha2]
        clear ha1 ha2 h1 h2 h3
        go_enter Tryz.func34, Tryz.ntmps34
        go_wp2
        exact bodyPost_ret (v := .agg #[.int .i64 op, .int .i64 a, .int .i64 b, .int .i64 c, .int .u64 m]) (by simp [results, Tryz.results34, go_sem]) rfl ⟨rfl, (by repeat (first | exact Below.refl _ _ | refine Below.setCell ?_ (by simp; try omega) _ | refine Below.drew ?_ | refine Below.alloc ?_ (by simp; try omega) _))⟩
open Q in
theorem Q.effect_Renamed_ok (x1 : AInstr) (to1 : List Int) : ∀ r : AInstr, effect_Renamed x1 to1 r → FCalls Tryz.prog 34 [] [.agg ((row_AInstr x1).map .v), .c (.v (.tree (to1.map iRow)))] (.w (.agg ((row_AInstr r).map .v))) [] [] := by
  intro r hr
  unfold effect_Renamed at hr
  rw [M.ret_iff.1 hr]
  refine ⟨⟨_, Tryz.func34, rfl, rfl⟩, rfl, fun w gs η F vs hg hH hvs hargs => ?_⟩
  obtain ⟨u, v, rfl⟩ : ∃ u v, vs = #[u, v] := by
    obtain ⟨l⟩ := vs
    match l, hvs with
    | [u, v], _ => exact ⟨u, v, rfl⟩
  obtain ⟨us, rfl, hl, hone, hc⟩ := hargs 0 _ u rfl rfl
  have hv : Tr w F (.tree (to1.map iRow)) v := hargs 1 _ v rfl rfl
  match us, hl with
  | [u0, u1, u2, u3, u4], _ =>
    have e0 := Tr.int_inv (show Tr w F (.int .i64 x1.Op) u0 from hc 0 _ u0 rfl rfl)
    have e1 := Tr.int_inv (show Tr w F (.int .i64 x1.A) u1 from hc 1 _ u1 rfl rfl)
    have e2 := Tr.int_inv (show Tr w F (.int .i64 x1.B) u2 from hc 2 _ u2 rfl rfl)
    have e3 := Tr.int_inv (show Tr w F (.int .i64 x1.C) u3 from hc 3 _ u3 rfl rfl)
    have e4 := Tr.int_inv (show Tr w F (.int .u64 x1.Imm) u4 from hc 4 _ u4 rfl rfl)
    subst e0 e1 e2 e3 e4
    refine (Renamed_any x1.Op x1.A x1.B x1.C x1.Imm v to1 w (hv.holdsI hH.Flt)).mono fun e w' ⟨h1, h3⟩ => ⟨_, η, F, h1, hH.bare hg h3 (fun g hg => .inl hg), ?_⟩
    have hA : renA x1.Op x1.A to1 = if x1.Op = 16 ∨ x1.Op = 17 then renQ x1.A to1 else x1.A := rfl
    have hB : renB x1.Op x1.B to1 = if x1.Op = 15 ∨ x1.Op = 17 then renQ x1.B to1 else x1.B := rfl
    refine ⟨[.int .i64 x1.Op, .int .i64 (renA x1.Op x1.A to1), .int .i64 (renB x1.Op x1.B to1), .int .i64 x1.C, .int .u64 x1.Imm], rfl, rfl, ?_, ?_⟩
    · intro y hy
      simp at hy
      rcases hy with rfl | rfl | rfl | rfl | rfl <;> rfl
    · intro i a b ha hb
      match i with
      | 0 => cases ha; cases hb; exact Tr.int _ _
      | 1 => cases ha; cases hb; rw [hA]; exact Tr.int _ _
      | 2 => cases ha; cases hb; rw [hB]; exact Tr.int _ _
      | 3 => cases ha; cases hb; exact Tr.int _ _
      | 4 => cases ha; cases hb; exact Tr.int _ _
      | i + 5 => simp [row_AInstr] at ha
end Go.Proofs.YtlhaoijkffhafaaGreatDoor
