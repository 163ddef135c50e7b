/- Walks of functions: the code does what the lifted text says (written by a program). -/
import Derived.Test.YtbppgdffochdmaaGwCoalesceValid1
set_option linter.unusedVariables false
set_option linter.unusedSimpArgs false
set_option maxRecDepth 8000
namespace Go.Proofs.Ytbppgdffochdmaa.Q
open Go.RowKit
set_option maxHeartbeats 4000000 in
theorem law19_CoalesceValid_ok (codes1 : List Int) (raw1 : List Int) (s1 : Int) : ∀ r : Bool, law19_CoalesceValid codes1 raw1 s1 r → FCalls Try.prog 3 [] [.c (.v (.tree (codes1.map bRow))), .c (.v (.tree (raw1.map iRow))), .c (.v (.int .i64 s1))] (.w (.c (.v (.bool r)))) [] [] := by
  refine fnS 80 ?_
  unfold law19_CoalesceValid
  refine VS.seq ?_
  refine VS.region ?_
  refine X.lk ?_
  refine X.nil ?_
  refine ES.seq ?_
  refine VS.seq ?_
  refine VS.seq ?_
  refine VS.region ?_
  refine X.call true [] [] law19_awake_ok (fun x1 => ?_)
  refine X.lk ?_
  refine X.lk ?_
  refine X.bif (b := (!x1)) (fun h1 => ?_) (fun h1 => ?_)
  · refine X.gN h1 ?_
    refine X.gN h1 ?_
    refine X.gN h1 ?_
    refine X.pT h1 ?_
    refine X.nil ?_
    refine ES.seq ?_
    refine VS.condT rfl ?_
    refine VS.seq ?_
    refine VS.region ?_
    refine X.lk ?_
    refine X.lenT ?_
    refine X.lk ?_
    refine X.lk ?_
    refine X.nil ?_
    refine ES.seq ?_
    refine VS.ret ?_
    refine ES.thnR ?_
    refine ES.ret ?_
    exact Ret.clo [.c (.v (.bool (decide (600 < (raw1.length : Int)))))] ⟨rfl, trivial⟩ trivial
  · refine X.gY h1 ?_
    refine X.lk ?_
    refine X.gY h1 ?_
    refine X.lenT ?_
    refine X.gY h1 ?_
    refine X.lk ?_
    refine X.pF h1 ?_
    refine X.nil ?_
    refine ES.seq ?_
    refine VS.cond (fun h2 => ?_) (fun h2 => ?_)
    · refine VS.seq ?_
      refine VS.region ?_
      refine X.lk ?_
      refine X.lenT ?_
      refine X.lk ?_
      refine X.lk ?_
      refine X.nil ?_
      refine ES.seq ?_
      refine VS.ret ?_
      refine ES.thnR ?_
      refine ES.ret ?_
      exact Ret.clo [.c (.v (.bool (decide (600 < (raw1.length : Int)))))] ⟨rfl, trivial⟩ trivial
    · refine VS.skip ?_
      refine ES.seq ?_
      refine VS.seq ?_
      refine VS.region ?_
      refine X.lk ?_
      refine X.callE 0 [] (law19_scene_ok codes1) (fun x2 => ?_)
      refine X.lk ?_
      refine X.lk ?_
      refine X.lk ?_
      refine X.lk ?_
      refine X.lk ?_
      refine X.alloc 1 ?_
      refine X.st ?_
      refine X.lk ?_
      refine X.lk ?_
      refine X.lk ?_
      refine X.nil ?_
      refine ES.seq ?_
      refine VS.seq ?_
      refine VS.region ?_
      refine X.lk ?_
      refine X.lk ?_
      refine X.lk ?_
      refine X.idxT (fun h3 => ?_)
      refine X.lk ?_
      refine X.alloc 2 ?_
      refine X.st ?_
      refine X.nil ?_
      refine ES.seq ?_
      refine VS.seq ?_
      refine VS.seq ?_
      refine VS.drawn ?_
      refine X.lk ?_
      refine X.lk ?_
      refine X.lk ?_
      refine X.lk ?_
      refine X.call true [] [0] (draw_Rename_ok x2.2.2.2 x2.1 x2.2.1) (fun x3 => ?_) (hn := ⟨rfl, trivial⟩)
      refine X.field ?_
      refine X.lk ?_
      refine X.lk ?_
      refine X.lk ?_
      refine X.call true [] [0] (draw_Rename_ok x3.2 x2.1 x2.2.1) (fun x4 => ?_) (hn := ⟨rfl, trivial⟩)
      refine X.field ?_
      refine X.bs 3 ([raw1, x3.1.To, x4.1.To, ([] : List Int)] : List (List Int)) (sR iRow) ?_
      refine X.lenM (l := ([raw1, x3.1.To, x4.1.To, ([] : List Int)] : List (List Int))) ?_
      refine X.lk ?_
      refine X.nilD ?_ (by kernel_rfl)
      refine ES.seq ?_
      refine VS.block ?_
      refine VS.loop (fun (x5 : Int) => (⟨[(2, .w (.c (.v (.int .i64 s1)))), (11, .w (.c (.ptr 0 0 0))), (47, .w (.c (.mref 1))), (48, .w (.c (.v (.int .i64 (([raw1, x3.1.To, x4.1.To, ([] : List Int)] : List (List Int)).length : Int))))), (49, .w (.c (.v (.int .i64 x5))))], [some (.bx 35 ((row_AFunc (atD x2.1.Funcs x2.2.1)).map .v)), some (.sl 23 1 false (([raw1, x3.1.To, x4.1.To, ([] : List Int)] : List (List Int)).map (sR iRow)))]⟩ : St)) (j0 := 0) ((St.le_drop _ 0 (Nat.le_of_ble_eq_true rfl)).trans ((St.le_drop _ 1 (Nat.le_of_ble_eq_true rfl)).trans ((St.le_mvB _ 2 0 rfl rfl rfl rfl).trans ((St.le_mvB _ 3 1 rfl rfl rfl rfl).trans (St.le_sub ⟨rfl, rfl, rfl, rfl, rfl, trivial⟩ ⟨rfl, rfl, trivial⟩ rfl))))) ?_
      rintro n1 again1 ih_again1 x5
      refine VS.seq ?_
      refine VS.region ?_
      refine X.lk ?_
      refine X.nil ?_
      refine ES.seq ?_
      refine VS.seq ?_
      refine VS.cond (fun h4 => ?_) (fun h4 => ?_)
      · refine VS.skip ?_
        refine ES.seq ?_
        refine VS.seq ?_
        refine VS.block ?_
        refine VS.seq ?_
        refine VS.region ?_
        refine X.idxM (l := ([raw1, x3.1.To, x4.1.To, ([] : List Int)] : List (List Int))) (i := x5) (fun h5 => ?_)
        refine X.ld (i := x5) h5 ?_
        refine X.lk ?_
        refine X.nil ?_
        refine ES.seq ?_
        refine VS.seq ?_
        refine VS.drawn ?_
        refine X.lk ?_
        refine X.lk ?_
        refine X.call true [] [] (coalesce_Valid_ok (atD x2.1.Funcs x2.2.1) (atD ([raw1, x3.1.To, x4.1.To, ([] : List Int)] : List (List Int)) x5)) (fun x6 => ?_)
        refine X.lk ?_
        refine X.lk ?_
        refine X.call true [] [] (r19_Valid_ok (atD x2.1.Funcs x2.2.1) (atD ([raw1, x3.1.To, x4.1.To, ([] : List Int)] : List (List Int)) x5)) (fun x7 => ?_)
        refine X.lk ?_
        refine X.lk ?_
        refine X.bif (b := (x6 != x7)) (fun h6 => ?_) (fun h6 => ?_)
        · refine X.gN h6 ?_
          refine X.gN h6 ?_
          refine X.gN h6 ?_
          refine X.gN h6 ?_
          refine X.gN h6 ?_
          refine X.gN h6 ?_
          refine X.gN h6 ?_
          refine X.pT h6 ?_
          refine X.lk ?_
          refine X.gN rfl ?_
          refine X.gN rfl ?_
          refine X.gN rfl ?_
          refine X.gN rfl ?_
          refine X.gN rfl ?_
          refine X.gN rfl ?_
          refine X.gN rfl ?_
          refine X.gN rfl ?_
          refine X.pT rfl ?_
          refine X.nilD ?_ (by kernel_rfl)
          refine ES.seq ?_
          refine VS.condT rfl ?_
          refine VS.weak (s' := (⟨[], [some (.bx 35 ((row_AFunc (atD x2.1.Funcs x2.2.1)).map .v)), some (.sl 23 1 false (([raw1, x3.1.To, x4.1.To, ([] : List Int)] : List (List Int)).map (sR iRow)))]⟩ : St)) (St.le_sub trivial ⟨rfl, rfl, trivial⟩ rfl) ?_
          refine VS.seq ?_
          refine VS.region ?_
          refine X.lk ?_
          refine X.nil ?_
          refine ES.seq ?_
          refine VS.ret ?_
          refine ES.blkR ?_
          refine ES.thnR ?_
          refine ES.thnR ?_
          refine ES.blkR ?_
          refine ES.thnR ?_
          refine ES.ret ?_
          exact Ret.clo [.c (.v (.bool false))] ⟨rfl, trivial⟩ trivial
        · refine X.gY h6 ?_
          refine X.lk ?_
          refine X.gY h6 ?_
          refine X.lk ?_
          refine X.gY h6 ?_
          refine X.call true [] [] (coalesce_Saved_ok (atD x2.1.Funcs x2.2.1) (atD ([raw1, x3.1.To, x4.1.To, ([] : List Int)] : List (List Int)) x5)) (fun x8 => ?_)
          refine X.gY h6 ?_
          refine X.lk ?_
          refine X.gY h6 ?_
          refine X.lk ?_
          refine X.gY h6 ?_
          refine X.call true [] [] (r19_Saved_ok (atD x2.1.Funcs x2.2.1) (atD ([raw1, x3.1.To, x4.1.To, ([] : List Int)] : List (List Int)) x5)) (fun x9 => ?_)
          refine X.gY h6 ?_
          refine X.lk ?_
          refine X.pF h6 ?_
          refine X.lk ?_
          refine X.bif (b := (!decide (x8 = x9))) (fun h7 => ?_) (fun h7 => ?_)
          · refine X.gN h7 ?_
            refine X.gN h7 ?_
            refine X.gN h7 ?_
            refine X.gN h7 ?_
            refine X.gN h7 ?_
            refine X.gN h7 ?_
            refine X.gN h7 ?_
            refine X.gN h7 ?_
            refine X.pT h7 ?_
            refine X.nilD ?_ (by kernel_rfl)
            refine ES.seq ?_
            refine VS.condT rfl ?_
            refine VS.weak (s' := (⟨[], [some (.bx 35 ((row_AFunc (atD x2.1.Funcs x2.2.1)).map .v)), some (.sl 23 1 false (([raw1, x3.1.To, x4.1.To, ([] : List Int)] : List (List Int)).map (sR iRow)))]⟩ : St)) (St.le_sub trivial ⟨rfl, rfl, trivial⟩ rfl) ?_
            refine VS.seq ?_
            refine VS.region ?_
            refine X.lk ?_
            refine X.nil ?_
            refine ES.seq ?_
            refine VS.ret ?_
            refine ES.blkR ?_
            refine ES.thnR ?_
            refine ES.thnR ?_
            refine ES.blkR ?_
            refine ES.thnR ?_
            refine ES.ret ?_
            exact Ret.clo [.c (.v (.bool false))] ⟨rfl, trivial⟩ trivial
          · refine X.gY h7 ?_
            refine X.lk ?_
            refine X.gY h7 ?_
            refine X.lk ?_
            refine X.gY h7 ?_
            refine X.call true [] [] (coalesce_Members_ok (atD ([raw1, x3.1.To, x4.1.To, ([] : List Int)] : List (List Int)) x5) s1) (fun x10 => ?_)
            refine X.gY h7 ?_
            refine X.lk ?_
            refine X.gY h7 ?_
            refine X.lk ?_
            refine X.gY h7 ?_
            refine X.call true [] [] (r19_Members_ok (atD ([raw1, x3.1.To, x4.1.To, ([] : List Int)] : List (List Int)) x5) s1) (fun x11 => ?_)
            refine X.gY h7 ?_
            refine X.call true [] [] (r04_Same_ok x10 x11) (fun x12 => ?_)
            refine X.gY h7 ?_
            refine X.lk ?_
            refine X.pF h7 ?_
            refine X.nilD ?_ (by kernel_rfl)
            refine ES.seq ?_
            refine VS.cond (fun h8 => ?_) (fun h8 => ?_)
            · refine VS.weak (s' := (⟨[], [some (.bx 35 ((row_AFunc (atD x2.1.Funcs x2.2.1)).map .v)), some (.sl 23 1 false (([raw1, x3.1.To, x4.1.To, ([] : List Int)] : List (List Int)).map (sR iRow)))]⟩ : St)) (St.le_sub trivial ⟨rfl, rfl, trivial⟩ rfl) ?_
              refine VS.seq ?_
              refine VS.region ?_
              refine X.lk ?_
              refine X.nil ?_
              refine ES.seq ?_
              refine VS.ret ?_
              refine ES.blkR ?_
              refine ES.thnR ?_
              refine ES.thnR ?_
              refine ES.blkR ?_
              refine ES.thnR ?_
              refine ES.ret ?_
              exact Ret.clo [.c (.v (.bool false))] ⟨rfl, trivial⟩ trivial
            · refine VS.skip ?_
              refine ES.blkN ?_
              refine ES.seq ?_
              refine VS.region ?_
              refine X.ck fun h9 => ?_
              refine X.lk ?_
              refine X.nil ?_
              exact ES.go ih_again1 (x5 + 1) (St.le_sub ⟨rfl, rfl, rfl, rfl, rfl, trivial⟩ ⟨rfl, rfl, trivial⟩ rfl)
      · refine VS.exit ?_
        refine ES.thnE ?_
        refine ES.thnE ?_
        refine ES.blkE ?_
        refine ES.seq ?_
        refine VS.seq ?_
        refine VS.region ?_
        refine X.lk ?_
        refine X.nil ?_
        refine ES.seq ?_
        refine VS.ret ?_
        refine ES.ret ?_
        exact Ret.clo [.c (.v (.bool true))] ⟨rfl, trivial⟩ trivial
end Go.Proofs.Ytbppgdffochdmaa.Q
