/- Walks of functions: the code does what the lifted text says (written by a program). -/
import Derived.Test.YtbppgdffochdmaaGw7
set_option linter.unusedVariables false
set_option linter.unusedSimpArgs false
set_option maxRecDepth 8000
namespace Go.Proofs.Ytbppgdffochdmaa.Q
open Go.RowKit
set_option maxHeartbeats 4000000 in
theorem coalesce_Members_ok (to1 : List Int) (s1 : Int) : ∀ r : List Int, coalesce_Members to1 s1 r → FCalls Try.prog 23 [] [.c (.v (.tree (to1.map iRow))), .c (.v (.int .i64 s1))] (.w (.c (.v (.tree (r.map iRow))))) [] [] := by
  refine fnS 24 ?_
  unfold coalesce_Members
  refine VS.seq ?_
  refine VS.region ?_
  refine X.lk ?_
  refine X.nil ?_
  refine ES.seq ?_
  refine VS.seq ?_
  refine VS.region ?_
  refine X.lk ?_
  refine X.nil ?_
  refine ES.seq ?_
  refine VS.seq ?_
  refine VS.seq ?_
  refine VS.region ?_
  refine X.lk ?_
  refine X.lenT ?_
  refine X.lk ?_
  refine X.nil ?_
  refine ES.seq ?_
  refine VS.block ?_
  refine VS.loop (fun jj : Int × List Int => (⟨[(1, .w (.c (.v (.int .i64 s1)))), (5, .w (.c (.mref 0))), (8, .w (.c (.v (.tree (to1.map iRow))))), (9, .w (.c (.v (.int .i64 (to1.length : Int))))), (10, .w (.c (.v (.int .i64 jj.1))))], [some (.sl 3 1 false (jj.2.map iRow))]⟩ : St)) (j0 := (0, ([] : List Int))) ((St.le_keep _ [1, 5, 8, 9, 10]).trans ((St.le_adopt _ 5 0 3 1 rfl rfl).trans (St.le_sub ⟨rfl, rfl, rfl, rfl, rfl, trivial⟩ ⟨rfl, trivial⟩ rfl))) ?_
  rintro n1 again1 ih_again1 ⟨x1, l1⟩
  refine VS.seq ?_
  refine VS.region ?_
  refine X.lk ?_
  refine X.nil ?_
  refine ES.seq ?_
  refine VS.seq ?_
  refine VS.cond (fun h1 => ?_) (fun h1 => ?_)
  · refine VS.skip ?_
    refine ES.seq ?_
    refine VS.seq ?_
    refine VS.block ?_
    refine VS.seq ?_
    refine VS.region ?_
    refine X.lk ?_
    refine X.idxT (fun h2 => ?_)
    refine X.lk ?_
    refine X.lk ?_
    refine X.lk ?_
    refine X.nil ?_
    refine ES.seq ?_
    refine VS.seq ?_
    refine VS.region ?_
    refine X.lk ?_
    refine X.lk ?_
    refine X.lk ?_
    refine X.nil ?_
    refine ES.seq ?_
    refine VS.cond (fun h3 => ?_) (fun h3 => ?_)
    · refine VS.region ?_
      refine X.lk ?_
      refine X.lk ?_
      refine X.bs 1 ([x1] : List Int) iRow ?_
      refine X.appMM 2 (l := l1) (l' := ([x1] : List Int)) (fun h4 => ?_)
      refine X.lk ?_
      refine X.nil ?_
      refine ES.blkN ?_
      refine ES.seq ?_
      refine VS.region ?_
      refine X.ck fun h5 => ?_
      refine X.lk ?_
      refine X.nil ?_
      exact ES.go ih_again1 ((x1 + 1), (l1 ++ ([x1] : List Int))) ((St.le_mvB _ 2 0 rfl rfl rfl rfl).trans (St.le_sub ⟨rfl, rfl, rfl, rfl, rfl, trivial⟩ ⟨rfl, trivial⟩ rfl))
    · refine VS.skip ?_
      refine ES.blkN ?_
      refine ES.seq ?_
      refine VS.region ?_
      refine X.ck fun h6 => ?_
      refine X.lk ?_
      refine X.nil ?_
      exact ES.go ih_again1 ((x1 + 1), l1) (St.le_sub ⟨rfl, rfl, rfl, rfl, rfl, trivial⟩ ⟨rfl, trivial⟩ rfl)
  · refine VS.exit ?_
    refine ES.thnE ?_
    refine ES.thnE ?_
    refine ES.blkE ?_
    refine ES.seq ?_
    refine VS.seq ?_
    refine VS.region ?_
    refine X.lk ?_
    refine X.lk ?_
    refine X.nil ?_
    refine ES.seq ?_
    refine VS.ret ?_
    refine ES.ret ?_
    exact Ret.weak (St.le_tree _ 4 0 rfl rfl) (Ret.clo [.c (.v (.tree (l1.map iRow)))] ⟨rfl, trivial⟩ trivial)
set_option maxHeartbeats 4000000 in
theorem law19_awake_ok  : ∀ r : Bool, law19_awake r → FCalls Try.prog 15 [] [] (.w (.c (.v (.bool r)))) [] [] := by
  refine fnS 5 ?_
  unfold law19_awake
  refine VS.seq ?_
  refine VS.region ?_
  refine X.lk ?_
  refine X.nil ?_
  refine ES.seq ?_
  refine VS.seq ?_
  refine VS.region ?_
  refine X.bs 0 ([0, 0, 2] : List Int) iRow ?_
  refine X.call true [(0, .sl 3 1 false (([0, 0, 2] : List Int).map iRow))] [] (coalesce_Members_ok ([0, 0, 2] : List Int) 0) (fun x1 => ?_) (hn := ⟨rfl, trivial⟩)
  refine X.lenT ?_
  refine X.lk ?_
  refine X.lk ?_
  refine X.nil ?_
  refine ES.seq ?_
  refine VS.ret ?_
  refine ES.ret ?_
  exact Ret.clo [.c (.v (.bool (decide ((x1.length : Int) = 2))))] ⟨rfl, trivial⟩ trivial
set_option maxHeartbeats 4000000 in
theorem draw_Lives_ok (c1 : DCodes) (f1 : AFunc) : ∀ r : ALive × DCodes, draw_Lives c1 f1 r → FCalls Try.prog 52 [(105, row_DCodes c1)] [.c (.ptr 0 0 0), .agg ((row_AFunc f1).map .v)] (.w (.agg ((row_ALive r.1).map .v))) [] [(105, row_DCodes r.2)] := by
  refine fnS 52 ?_
  unfold draw_Lives
  refine VS.seq ?_
  refine VS.region ?_
  refine X.box 1 ?_
  refine X.alloc 2 ?_
  refine X.nil ?_
  refine ES.seq ?_
  refine VS.seq ?_
  refine VS.region ?_
  refine X.lk ?_
  refine X.call true [] [] (r16_Solve_ok f1) (fun x1 => ?_)
  refine X.alloc 3 ?_
  refine X.st ?_
  refine X.nil ?_
  refine ES.seq ?_
  refine VS.seq ?_
  refine VS.region ?_
  refine X.lk ?_
  refine X.lk ?_
  refine X.appNT 4 (l' := x1.Out) (fun h1 => ?_)
  refine X.build ?_
  refine X.alloc 5 ?_
  refine X.st ?_
  refine X.nil ?_
  refine ES.seq ?_
  refine VS.seq ?_
  refine VS.seq ?_
  refine VS.region ?_
  refine X.lk ?_
  refine X.call true [] [0] (draw_Next_ok c1 3) (fun x2 => ?_) (hn := ⟨rfl, trivial⟩)
  refine X.lk ?_
  refine X.nil ?_
  refine ES.seq ?_
  refine VS.block ?_
  refine VS.loop (fun jj : Int × DCodes × List (List Int) => (⟨[(0, .w (.c (.ptr 0 0 0))), (3, .w (.c (.ptr 1 0 0))), (4, .w (.c (.ptr 2 0 0))), (6, .w (.c (.ptr 3 0 0))), (7, .w (.c (.v (.int .i64 jj.1))))], [some (.bx 105 ((row_DCodes jj.2.1).map .v)), some (.bx 35 ((row_AFunc f1).map .v)), some (.bx 86 [.v (.tree (([] : List (List Int)).map (sR iRow)))]), some (.bx 86 [.mref 4]), some (.sl 23 1 false (jj.2.2.map (sR iRow)))]⟩ : St)) (j0 := (x2.1, x2.2, x1.Out)) ((St.le_drop _ 3 (Nat.le_of_ble_eq_true rfl)).trans ((St.le_mvB _ 5 3 rfl rfl rfl rfl).trans (St.le_sub ⟨rfl, rfl, rfl, rfl, rfl, trivial⟩ ⟨rfl, rfl, rfl, rfl, rfl, trivial⟩ rfl))) ?_
  rintro n2 again1 ih_again1 ⟨n1, c2, own1⟩
  refine VS.seq ?_
  refine VS.seq ?_
  refine VS.region ?_
  refine X.lk ?_
  refine X.lk ?_
  refine X.lk ?_
  refine X.bif (b := (decide (0 < n1))) (fun h2 => ?_) (fun h2 => ?_)
  · refine X.gY h2 ?_
    refine X.lk ?_
    refine X.gY h2 ?_
    refine X.lk ?_
    refine X.gY h2 ?_
    refine X.lenT ?_
    refine X.gY h2 ?_
    refine X.lk ?_
    refine X.pT h2 ?_
    refine X.nil ?_
    refine ES.seq ?_
    refine VS.cond (fun h3 => ?_) (fun h3 => ?_)
    · refine VS.skip ?_
      refine ES.seq ?_
      refine VS.seq ?_
      refine VS.block ?_
      refine VS.seq ?_
      refine VS.region ?_
      refine X.lk ?_
      refine X.lk ?_
      refine X.lk ?_
      refine X.lenT ?_
      refine X.call true [] [0] (draw_Next_ok c2 (f1.Slots.length : Int)) (fun x3 => ?_) (hn := ⟨rfl, trivial⟩)
      refine X.lk ?_
      refine X.nil ?_
      refine ES.seq ?_
      refine VS.seq ?_
      refine VS.region ?_
      refine X.lk ?_
      refine X.nil ?_
      refine ES.seq ?_
      refine VS.block ?_
      refine VS.loop (fun jj : Int × List (List Int) => (⟨[(0, .w (.c (.ptr 0 0 0))), (3, .w (.c (.ptr 1 0 0))), (4, .w (.c (.ptr 2 0 0))), (6, .w (.c (.ptr 3 0 0))), (7, .w (.c (.v (.int .i64 n1)))), (8, .w (.c (.v (.int .i64 x3.1)))), (9, .w (.c (.v (.int .i64 jj.1)))), (21, .w (.c (.ptr 1 0 1))), (22, .w (.c (.v (.tree (f1.Slots.map row_ASlot))))), (23, .w (.c (.v (.int .i64 (f1.Slots.length : Int))))), (24, .w (.c (.v (.bool (decide (0 < (f1.Slots.length : Int)))))))], [some (.bx 105 ((row_DCodes x3.2).map .v)), some (.bx 35 ((row_AFunc f1).map .v)), some (.bx 86 [.v (.tree (([] : List (List Int)).map (sR iRow)))]), some (.bx 86 [.mref 4]), some (.sl 23 1 false (jj.2.map (sR iRow)))]⟩ : St)) (j0 := (0, own1)) (St.le_sub ⟨rfl, rfl, rfl, rfl, rfl, rfl, rfl, rfl, rfl, rfl, rfl, trivial⟩ ⟨rfl, rfl, rfl, rfl, rfl, trivial⟩ rfl) ?_
      rintro n3 again2 ih_again2 ⟨k1, own2⟩
      refine VS.seq ?_
      refine VS.seq ?_
      refine VS.region ?_
      refine X.lk ?_
      refine X.lk ?_
      refine X.lk ?_
      refine X.lenM (l := own2) ?_
      refine X.lk ?_
      refine X.nil ?_
      refine ES.seq ?_
      refine VS.cond (fun h4 => ?_) (fun h4 => ?_)
      · refine VS.skip ?_
        refine ES.seq ?_
        refine VS.seq ?_
        refine VS.block ?_
        refine VS.drawn ?_
        refine X.lk ?_
        refine X.lk ?_
        refine X.lk ?_
        refine X.lk ?_
        refine X.lk ?_
        refine X.lk ?_
        refine X.idxM (l := own2) (i := k1) (fun h5 => ?_)
        refine X.ld (i := k1) h5 ?_
        refine X.lk ?_
        refine X.call true [] [] (r04_Add_ok (atD own2 k1) x3.1) (fun x4 => ?_)
        refine X.idxM (l := own2) (i := k1) (fun h6 => ?_)
        refine X.set (i := k1) x4 h6 ?_
        refine X.nilD ?_ (by kernel_rfl)
        refine ES.blkN ?_
        refine ES.seq ?_
        refine VS.region ?_
        refine X.lk ?_
        refine X.ck fun h7 => ?_
        refine X.lk ?_
        refine X.nil ?_
        exact ES.go ih_again2 ((k1 + 1), (setD own2 k1 x4)) (St.le_sub ⟨rfl, rfl, rfl, rfl, rfl, rfl, rfl, rfl, rfl, rfl, rfl, trivial⟩ ⟨rfl, rfl, rfl, rfl, rfl, trivial⟩ rfl)
      · refine VS.exit ?_
        refine ES.thnE ?_
        refine ES.thnE ?_
        refine ES.blkE ?_
        refine ES.blkN ?_
        refine ES.seq ?_
        refine VS.region ?_
        refine X.lk ?_
        refine X.ck fun h8 => ?_
        refine X.lk ?_
        refine X.nil ?_
        exact ES.go ih_again1 ((n1 - 1), x3.2, own2) (St.le_sub ⟨rfl, rfl, rfl, rfl, rfl, trivial⟩ ⟨rfl, rfl, rfl, rfl, rfl, trivial⟩ rfl)
    · refine VS.exit ?_
      refine ES.thnE ?_
      refine ES.thnE ?_
      refine ES.blkE ?_
      refine ES.seq ?_
      refine VS.seq ?_
      refine VS.region ?_
      refine X.lk ?_
      refine X.st ?_
      refine X.nil ?_
      refine ES.seq ?_
      refine VS.ret ?_
      refine ES.ret ?_
      exact Ret.weak (St.le_tcell _ 2 0 4 rfl rfl rfl rfl) (Ret.clo [.agg ((row_ALive (⟨own1⟩ : ALive)).map .v)] ⟨⟨_, _, _, _, _, _, rfl, rfl, fits rfl, rfl⟩, trivial⟩ ⟨rfl, trivial⟩)
  · refine X.gN h2 ?_
    refine X.gN h2 ?_
    refine X.gN h2 ?_
    refine X.gN h2 ?_
    refine X.pF h2 ?_
    refine X.nil ?_
    refine ES.seq ?_
    refine VS.condF rfl ?_
    refine VS.exit ?_
    refine ES.thnE ?_
    refine ES.thnE ?_
    refine ES.blkE ?_
    refine ES.seq ?_
    refine VS.seq ?_
    refine VS.region ?_
    refine X.lk ?_
    refine X.st ?_
    refine X.nil ?_
    refine ES.seq ?_
    refine VS.ret ?_
    refine ES.ret ?_
    exact Ret.weak (St.le_tcell _ 2 0 4 rfl rfl rfl rfl) (Ret.clo [.agg ((row_ALive (⟨own1⟩ : ALive)).map .v)] ⟨⟨_, _, _, _, _, _, rfl, rfl, fits rfl, rfl⟩, trivial⟩ ⟨rfl, trivial⟩)
set_option maxHeartbeats 4000000 in
theorem law19_scene_ok (codes1 : List Int) : ∀ r : AProgram × Int × List (List Int) × DCodes, law19_scene codes1 r → FCalls Try.prog 16 [] [.c (.v (.tree (codes1.map bRow)))] (.tup [.agg ((row_AProgram r.1).map .v), .c (.v (.int .i64 r.2.1)), .c (.v (.tree (r.2.2.1.map (sR iRow)))), .c (.ptr 0 0 0)]) [.bx 105 ((row_DCodes r.2.2.2).map .v)] [] := by
  refine fnS 40 ?_
  unfold law19_scene
  refine VS.seq ?_
  refine VS.region ?_
  refine X.alloc 0 ?_
  refine X.lk ?_
  refine X.lk ?_
  refine X.lk ?_
  refine X.nil ?_
  refine ES.seq ?_
  refine VS.seq ?_
  refine VS.region ?_
  refine X.lk ?_
  refine X.callE 1 [] (draw_New_ok codes1 250) (fun x1 => ?_)
  refine X.lk ?_
  refine X.nil ?_
  refine ES.seq ?_
  refine VS.seq ?_
  refine VS.region ?_
  refine X.lk ?_
  refine X.call true [] [1] (draw_Program_ok x1 3 16) (fun x2 => ?_) (hn := ⟨rfl, trivial⟩)
  refine X.alloc 2 ?_
  refine X.st ?_
  refine X.nil ?_
  refine ES.seq ?_
  refine VS.seq ?_
  refine VS.region ?_
  refine X.lk ?_
  refine X.lk ?_
  refine X.lk ?_
  refine X.lenT ?_
  refine X.call true [] [1] (draw_Next_ok x2.2 (x2.1.Funcs.length : Int)) (fun x3 => ?_) (hn := ⟨rfl, trivial⟩)
  refine X.lk ?_
  refine X.nil ?_
  refine ES.seq ?_
  refine VS.seq ?_
  refine VS.drawn ?_
  refine X.lk ?_
  refine X.lk ?_
  refine X.lk ?_
  refine X.idxT (fun h1 => ?_)
  refine X.lk ?_
  refine X.lk ?_
  refine X.lk ?_
  refine X.lk ?_
  refine X.lk ?_
  refine X.idxT (fun h2 => ?_)
  refine X.lk ?_
  refine X.call true [] [1] (draw_Lives_ok x3.2 (atD x2.1.Funcs x3.1)) (fun x4 => ?_) (hn := ⟨rfl, trivial⟩)
  refine X.call true [] [] (r18_Graph_ok (atD x2.1.Funcs x3.1) x4.1) (fun x5 => ?_)
  refine X.lk ?_
  refine X.lk ?_
  refine X.lk ?_
  refine X.lk ?_
  refine X.lk ?_
  refine X.nilD ?_ (by kernel_rfl)
  refine ES.seq ?_
  refine VS.weak (s' := (⟨[(2, .w (.c (.ptr 0 0 0))), (6, .w (.c (.ptr 1 0 0))), (7, .w (.c (.ptr 2 0 0))), (8, .w (.c (.v (.int .i64 x3.1)))), (9, .w (.c (.v (.tree (x5.1.map (sR iRow))))))], [some (.bx 27 [.v (.tree (([] : List AFunc).map row_AFunc))]), some (.bx 105 ((row_DCodes x4.2).map .v)), some (.bx 27 ((row_AProgram x2.1).map .v))]⟩ : St)) (St.le_sub ⟨rfl, rfl, rfl, rfl, rfl, trivial⟩ ⟨rfl, rfl, rfl, trivial⟩ rfl) ?_
  refine VS.seq ?_
  refine VS.region ?_
  refine X.lk ?_
  refine X.lk ?_
  refine X.lk ?_
  refine X.lk ?_
  refine X.st ?_
  refine X.lk ?_
  refine X.lk ?_
  refine X.lk ?_
  refine X.nil ?_
  refine ES.seq ?_
  refine VS.ret ?_
  refine ES.ret ?_
  exact Ret.cloE 1 [.agg ((row_AProgram x2.1).map .v), .c (.v (.int .i64 x3.1)), .c (.v (.tree (x5.1.map (sR iRow)))), .c (.ptr 1 0 0)] ⟨⟨_, _, _, _, _, _, rfl, rfl, fits rfl, rfl⟩, rfl, rfl, rfl, trivial⟩ trivial
set_option maxHeartbeats 4000000 in
theorem draw_Rename_ok (c1 : DCodes) (p1 : AProgram) (i1 : Int) : ∀ r : ARename × DCodes, draw_Rename c1 p1 i1 r → FCalls Try.prog 17 [(105, row_DCodes c1)] [.c (.ptr 0 0 0), .agg ((row_AProgram p1).map .v), .c (.v (.int .i64 i1))] (.w (.agg ((row_ARename r.1).map .v))) [] [(105, row_DCodes r.2)] := by
  refine fnS 163 ?_
  unfold draw_Rename
  refine VS.seq ?_
  refine VS.region ?_
  refine X.box 1 ?_
  refine X.alloc 2 ?_
  refine X.nil ?_
  refine ES.seq ?_
  refine VS.seq ?_
  refine VS.region ?_
  refine X.lk ?_
  refine X.lk ?_
  refine X.lk ?_
  refine X.idxT (fun h1 => ?_)
  refine X.lk ?_
  refine X.alloc 3 ?_
  refine X.st ?_
  refine X.nil ?_
  refine ES.seq ?_
  refine VS.seq ?_
  refine VS.region ?_
  refine X.lk ?_
  refine X.lk ?_
  refine X.call true [] [] (r31_Propose_ok p1 i1) (fun x1 => ?_)
  refine X.field ?_
  refine X.alloc 4 ?_
  refine X.st ?_
  refine X.nil ?_
  refine ES.seq ?_
  refine VS.seq ?_
  refine VS.drawn ?_
  refine X.lk ?_
  refine X.lk ?_
  refine X.appNT 5 (l' := x1.Rename.To) (fun h2 => ?_)
  refine X.lk ?_
  refine X.lk ?_
  refine X.appNT 6 (l' := x1.Rename.Keep) (fun h3 => ?_)
  refine X.build ?_
  refine X.alloc 7 ?_
  refine X.st ?_
  refine X.nilD ?_ (by kernel_rfl)
  refine ES.seq ?_
  refine VS.join (fun jj : DCodes × List Int × List Bool => (⟨[(0, .w (.c (.ptr 0 0 0))), (6, .w (.c (.ptr 1 0 0))), (7, .w (.c (.ptr 2 0 0))), (9, .w (.c (.ptr 3 0 0)))], [some (.bx 105 ((row_DCodes jj.1).map .v)), some (.bx 38 [.v (.tree (([] : List Int).map iRow)), .v (.tree (([] : List Bool).map oRow))]), some (.bx 35 ((row_AFunc (atD p1.Funcs i1)).map .v)), some (.bx 38 [.mref 4, .mref 5]), some (.sl 3 1 false (jj.2.1.map iRow)), some (.sl 4 1 false (jj.2.2.map oRow))]⟩ : St)) ?_ ?_
  · rintro ⟨c2, own1, own2⟩
    refine VS.seq ?_
    refine VS.seq ?_
    refine VS.region ?_
    refine X.lk ?_
    refine X.call true [] [0] (draw_Next_ok c2 4) (fun x2 => ?_) (hn := ⟨rfl, trivial⟩)
    refine X.lk ?_
    refine X.nil ?_
    refine ES.seq ?_
    refine VS.block ?_
    refine VS.loop (fun jj : Int × DCodes × List Int × List Bool => (⟨[(0, .w (.c (.ptr 0 0 0))), (6, .w (.c (.ptr 1 0 0))), (7, .w (.c (.ptr 2 0 0))), (9, .w (.c (.ptr 3 0 0))), (12, .w (.c (.v (.int .i64 jj.1))))], [some (.bx 105 ((row_DCodes jj.2.1).map .v)), some (.bx 38 [.v (.tree (([] : List Int).map iRow)), .v (.tree (([] : List Bool).map oRow))]), some (.bx 35 ((row_AFunc (atD p1.Funcs i1)).map .v)), some (.bx 38 [.mref 4, .mref 5]), some (.sl 3 1 false (jj.2.2.1.map iRow)), some (.sl 4 1 false (jj.2.2.2.map oRow))]⟩ : St)) (j0 := (x2.1, x2.2, own1, own2)) (St.le_sub ⟨rfl, rfl, rfl, rfl, rfl, trivial⟩ ⟨rfl, rfl, rfl, rfl, rfl, rfl, trivial⟩ rfl) ?_
    rintro n2 again1 ih_again1 ⟨n1, c3, own3, own4⟩
    refine VS.seq ?_
    refine VS.seq ?_
    refine VS.region ?_
    refine X.lk ?_
    refine X.lk ?_
    refine X.nil ?_
    refine ES.seq ?_
    refine VS.cond (fun h4 => ?_) (fun h4 => ?_)
    · refine VS.skip ?_
      refine ES.seq ?_
      refine VS.join (fun jj : DCodes × List Int × List Bool => (⟨[(0, .w (.c (.ptr 0 0 0))), (6, .w (.c (.ptr 1 0 0))), (7, .w (.c (.ptr 2 0 0))), (9, .w (.c (.ptr 3 0 0))), (12, .w (.c (.v (.int .i64 n1))))], [some (.bx 105 ((row_DCodes jj.1).map .v)), some (.bx 38 [.v (.tree (([] : List Int).map iRow)), .v (.tree (([] : List Bool).map oRow))]), some (.bx 35 ((row_AFunc (atD p1.Funcs i1)).map .v)), some (.bx 38 [.mref 4, .mref 5]), some (.sl 3 1 false (jj.2.1.map iRow)), some (.sl 4 1 false (jj.2.2.map oRow))]⟩ : St)) ?_ ?_
      · rintro ⟨c4, own5, own6⟩
        refine VS.region ?_
        refine X.lk ?_
        refine X.ck fun h5 => ?_
        refine X.lk ?_
        refine X.nil ?_
        exact ES.go ih_again1 ((n1 - 1), c4, own5, own6) (St.le_sub ⟨rfl, rfl, rfl, rfl, rfl, trivial⟩ ⟨rfl, rfl, rfl, rfl, rfl, rfl, trivial⟩ rfl)
      · intro k2 ih_k2
        refine VS.block ?_
        refine VS.seq ?_
        refine VS.region ?_
        refine X.lk ?_
        refine X.lk ?_
        refine X.lk ?_
        refine X.lenT ?_
        refine X.call true [] [0] (draw_Next_ok c3 (((atD p1.Funcs i1).Code).length : Int)) (fun x3 => ?_) (hn := ⟨rfl, trivial⟩)
        refine X.lk ?_
        refine X.nil ?_
        refine ES.seq ?_
        refine VS.seq ?_
        refine VS.region ?_
        refine X.lk ?_
        refine X.call true [] [0] (draw_Next_ok x3.2 4) (fun x4 => ?_) (hn := ⟨rfl, trivial⟩)
        refine X.nil ?_
        refine ES.seq ?_
        refine VS.block ?_
        refine VS.join (fun (x5 : Bool) => (⟨[(0, .w (.c (.ptr 0 0 0))), (6, .w (.c (.ptr 1 0 0))), (7, .w (.c (.ptr 2 0 0))), (9, .w (.c (.ptr 3 0 0))), (12, .w (.c (.v (.int .i64 n1)))), (13, .w (.c (.v (.int .i64 x3.1)))), (72, .w (.c (.v (.int .i64 x4.1)))), (73, .w (.c (.v (.bool x5))))], [some (.bx 105 ((row_DCodes x4.2).map .v)), some (.bx 38 [.v (.tree (([] : List Int).map iRow)), .v (.tree (([] : List Bool).map oRow))]), some (.bx 35 ((row_AFunc (atD p1.Funcs i1)).map .v)), some (.bx 38 [.mref 4, .mref 5]), some (.sl 3 1 false (own3.map iRow)), some (.sl 4 1 false (own4.map oRow))]⟩ : St)) ?_ ?_
        · rintro x5
          refine VS.cond (fun h6 => ?_) (fun h6 => ?_)
          · refine VS.seq ?_
            refine VS.region ?_
            refine X.lk ?_
            refine X.lk ?_
            refine X.lk ?_
            refine X.idxT (fun h7 => ?_)
            refine X.lk ?_
            refine X.lk ?_
            refine X.lk ?_
            refine X.nil ?_
            refine ES.seq ?_
            refine VS.seq ?_
            refine VS.region ?_
            refine X.lk ?_
            refine X.lk ?_
            refine X.lk ?_
            refine X.bif (b := (decide (((atD ((atD p1.Funcs i1).Code) x3.1).Op) = 16))) (fun h8 => ?_) (fun h8 => ?_)
            · refine X.gN h8 ?_
              refine X.gN h8 ?_
              refine X.pT h8 ?_
              refine X.lk ?_
              refine X.gN rfl ?_
              refine X.gN rfl ?_
              refine X.gN rfl ?_
              refine X.pT rfl ?_
              refine X.nil ?_
              refine ES.seq ?_
              refine VS.condT rfl ?_
              refine VS.drawn ?_
              refine X.lk ?_
              refine X.lk ?_
              refine X.lk ?_
              refine X.lk ?_
              refine X.lk ?_
              refine X.lk ?_
              refine X.idxM (l := own4) (i := x3.1) (fun h9 => ?_)
              refine X.ld (i := x3.1) h9 ?_
              refine X.lk ?_
              refine X.idxM (l := own4) (i := x3.1) (fun h10 => ?_)
              refine X.set (i := x3.1) (!(atD own4 x3.1)) h10 ?_
              refine X.nilD ?_ (by kernel_rfl)
              refine ES.blkN ?_
              refine ES.blkN ?_
              exact ES.jn ih_k2 (x4.2, own3, (setD own4 x3.1 (!(atD own4 x3.1)))) (St.le_sub ⟨rfl, rfl, rfl, rfl, rfl, trivial⟩ ⟨rfl, rfl, rfl, rfl, rfl, rfl, trivial⟩ rfl)
            · refine X.gY h8 ?_
              refine X.lk ?_
              refine X.gY h8 ?_
              refine X.lk ?_
              refine X.pF h8 ?_
              refine X.lk ?_
              refine X.bif (b := (decide (((atD ((atD p1.Funcs i1).Code) x3.1).Op) = 17))) (fun h11 => ?_) (fun h11 => ?_)
              · refine X.gN h11 ?_
                refine X.gN h11 ?_
                refine X.gN h11 ?_
                refine X.pT h11 ?_
                refine X.nil ?_
                refine ES.seq ?_
                refine VS.condT rfl ?_
                refine VS.drawn ?_
                refine X.lk ?_
                refine X.lk ?_
                refine X.lk ?_
                refine X.lk ?_
                refine X.lk ?_
                refine X.lk ?_
                refine X.idxM (l := own4) (i := x3.1) (fun h12 => ?_)
                refine X.ld (i := x3.1) h12 ?_
                refine X.lk ?_
                refine X.idxM (l := own4) (i := x3.1) (fun h13 => ?_)
                refine X.set (i := x3.1) (!(atD own4 x3.1)) h13 ?_
                refine X.nilD ?_ (by kernel_rfl)
                refine ES.blkN ?_
                refine ES.blkN ?_
                exact ES.jn ih_k2 (x4.2, own3, (setD own4 x3.1 (!(atD own4 x3.1)))) (St.le_sub ⟨rfl, rfl, rfl, rfl, rfl, trivial⟩ ⟨rfl, rfl, rfl, rfl, rfl, rfl, trivial⟩ rfl)
              · refine X.gY h11 ?_
                refine X.lk ?_
                refine X.gY h11 ?_
                refine X.call true [] [0] (draw_Next_ok x4.2 8) (fun x6 => ?_) (hn := ⟨rfl, trivial⟩)
                refine X.gY h11 ?_
                refine X.lk ?_
                refine X.pF h11 ?_
                refine X.nil ?_
                refine ES.seq ?_
                refine VS.cond (fun h14 => ?_) (fun h14 => ?_)
                · refine VS.drawn ?_
                  refine X.lk ?_
                  refine X.lk ?_
                  refine X.lk ?_
                  refine X.lk ?_
                  refine X.lk ?_
                  refine X.lk ?_
                  refine X.idxM (l := own4) (i := x3.1) (fun h15 => ?_)
                  refine X.ld (i := x3.1) h15 ?_
                  refine X.lk ?_
                  refine X.idxM (l := own4) (i := x3.1) (fun h16 => ?_)
                  refine X.set (i := x3.1) (!(atD own4 x3.1)) h16 ?_
                  refine X.nilD ?_ (by kernel_rfl)
                  refine ES.blkN ?_
                  refine ES.blkN ?_
                  exact ES.jn ih_k2 (x6.2, own3, (setD own4 x3.1 (!(atD own4 x3.1)))) (St.le_sub ⟨rfl, rfl, rfl, rfl, rfl, trivial⟩ ⟨rfl, rfl, rfl, rfl, rfl, rfl, trivial⟩ rfl)
                · refine VS.skip ?_
                  refine ES.blkN ?_
                  refine ES.blkN ?_
                  exact ES.jn ih_k2 (x6.2, own3, own4) (St.le_sub ⟨rfl, rfl, rfl, rfl, rfl, trivial⟩ ⟨rfl, rfl, rfl, rfl, rfl, rfl, trivial⟩ rfl)
          · refine VS.seq ?_
            refine VS.region ?_
            refine X.lk ?_
            refine X.lk ?_
            refine X.nil ?_
            refine ES.seq ?_
            refine VS.cond (fun h17 => ?_) (fun h17 => ?_)
            · refine VS.seq ?_
              refine VS.region ?_
              refine X.lk ?_
              refine X.lk ?_
              refine X.lenT ?_
              refine X.lk ?_
              refine X.nil ?_
              refine ES.seq ?_
              refine VS.cond (fun h18 => ?_) (fun h18 => ?_)
              · refine VS.seq ?_
                refine VS.region ?_
                refine X.lk ?_
                refine X.lk ?_
                refine X.lk ?_
                refine X.lenT ?_
                refine X.call true [] [0] (draw_Next_ok x4.2 (((atD p1.Funcs i1).Slots).length : Int)) (fun x7 => ?_) (hn := ⟨rfl, trivial⟩)
                refine X.lk ?_
                refine X.nil ?_
                refine ES.seq ?_
                refine VS.seq ?_
                refine VS.drawn ?_
                refine X.lk ?_
                refine X.lk ?_
                refine X.lk ?_
                refine X.lk ?_
                refine X.lk ?_
                refine X.call true [] [0] (draw_like_ok x7.2 (atD p1.Funcs i1) x7.1) (fun x8 => ?_) (hn := ⟨rfl, trivial⟩)
                refine X.idxM (l := own3) (i := x8.1) (fun h19 => ?_)
                refine X.ld (i := x8.1) h19 ?_
                refine X.lk ?_
                refine X.nilD ?_ (by kernel_rfl)
                refine ES.seq ?_
                refine VS.seq ?_
                refine VS.region ?_
                refine X.lk ?_
                refine X.nil ?_
                refine ES.seq ?_
                refine VS.block ?_
                refine VS.loop (fun jj : Int × List Int => (⟨[(0, .w (.c (.ptr 0 0 0))), (6, .w (.c (.ptr 1 0 0))), (7, .w (.c (.ptr 2 0 0))), (9, .w (.c (.ptr 3 0 0))), (12, .w (.c (.v (.int .i64 n1)))), (15, .w (.c (.v (.int .i64 x7.1)))), (16, .w (.c (.v (.int .i64 (atD own3 x8.1))))), (17, .w (.c (.v (.int .i64 jj.1))))], [some (.bx 105 ((row_DCodes x8.2).map .v)), some (.bx 38 [.v (.tree (([] : List Int).map iRow)), .v (.tree (([] : List Bool).map oRow))]), some (.bx 35 ((row_AFunc (atD p1.Funcs i1)).map .v)), some (.bx 38 [.mref 4, .mref 5]), some (.sl 3 1 false (jj.2.map iRow)), some (.sl 4 1 false (own4.map oRow))]⟩ : St)) (j0 := (0, own3)) (St.le_sub ⟨rfl, rfl, rfl, rfl, rfl, rfl, rfl, rfl, trivial⟩ ⟨rfl, rfl, rfl, rfl, rfl, rfl, trivial⟩ rfl) ?_
                rintro n3 again2 ih_again2 ⟨u1, own7⟩
                refine VS.seq ?_
                refine VS.seq ?_
                refine VS.region ?_
                refine X.lk ?_
                refine X.lk ?_
                refine X.lk ?_
                refine X.lenM (l := own7) ?_
                refine X.lk ?_
                refine X.nil ?_
                refine ES.seq ?_
                refine VS.cond (fun h20 => ?_) (fun h20 => ?_)
                · refine VS.skip ?_
                  refine ES.seq ?_
                  refine VS.seq ?_
                  refine VS.block ?_
                  refine VS.seq ?_
                  refine VS.region ?_
                  refine X.lk ?_
                  refine X.lk ?_
                  refine X.lk ?_
                  refine X.idxM (l := own7) (i := u1) (fun h21 => ?_)
                  refine X.ld (i := u1) h21 ?_
                  refine X.lk ?_
                  refine X.lk ?_
                  refine X.nil ?_
                  refine ES.seq ?_
                  refine VS.cond (fun h22 => ?_) (fun h22 => ?_)
                  · refine VS.region ?_
                    refine X.lk ?_
                    refine X.lk ?_
                    refine X.lk ?_
                    refine X.lk ?_
                    refine X.idxM (l := own7) (i := u1) (fun h23 => ?_)
                    refine X.set (i := u1) (atD own3 x8.1) h23 ?_
                    refine X.nil ?_
                    refine ES.blkN ?_
                    refine ES.seq ?_
                    refine VS.region ?_
                    refine X.lk ?_
                    refine X.ck fun h24 => ?_
                    refine X.lk ?_
                    refine X.nil ?_
                    exact ES.go ih_again2 ((u1 + 1), (setD own7 u1 (atD own3 x8.1))) (St.le_sub ⟨rfl, rfl, rfl, rfl, rfl, rfl, rfl, rfl, trivial⟩ ⟨rfl, rfl, rfl, rfl, rfl, rfl, trivial⟩ rfl)
                  · refine VS.skip ?_
                    refine ES.blkN ?_
                    refine ES.seq ?_
                    refine VS.region ?_
                    refine X.lk ?_
                    refine X.ck fun h25 => ?_
                    refine X.lk ?_
                    refine X.nil ?_
                    exact ES.go ih_again2 ((u1 + 1), own7) (St.le_sub ⟨rfl, rfl, rfl, rfl, rfl, rfl, rfl, rfl, trivial⟩ ⟨rfl, rfl, rfl, rfl, rfl, rfl, trivial⟩ rfl)
                · refine VS.exit ?_
                  refine ES.thnE ?_
                  refine ES.thnE ?_
                  refine ES.blkE ?_
                  refine ES.blkN ?_
                  refine ES.blkN ?_
                  exact ES.jn ih_k2 (x8.2, own7, own4) (St.le_sub ⟨rfl, rfl, rfl, rfl, rfl, trivial⟩ ⟨rfl, rfl, rfl, rfl, rfl, rfl, trivial⟩ rfl)
              · refine VS.skip ?_
                refine ES.blkN ?_
                refine ES.blkN ?_
                exact ES.jn ih_k2 (x4.2, own3, own4) (St.le_sub ⟨rfl, rfl, rfl, rfl, rfl, trivial⟩ ⟨rfl, rfl, rfl, rfl, rfl, rfl, trivial⟩ rfl)
            · refine VS.seq ?_
              refine VS.region ?_
              refine X.lk ?_
              refine X.lk ?_
              refine X.nil ?_
              refine ES.seq ?_
              refine VS.cond (fun h26 => ?_) (fun h26 => ?_)
              · refine VS.seq ?_
                refine VS.region ?_
                refine X.lk ?_
                refine X.lk ?_
                refine X.lenT ?_
                refine X.lk ?_
                refine X.lk ?_
                refine X.bif (b := (decide (0 < (((atD p1.Funcs i1).Slots).length : Int)))) (fun h27 => ?_) (fun h27 => ?_)
                · refine X.gY h27 ?_
                  refine X.lk ?_
                  refine X.gY h27 ?_
                  refine X.call true [] [0] (draw_Next_ok x4.2 4) (fun x9 => ?_) (hn := ⟨rfl, trivial⟩)
                  refine X.gY h27 ?_
                  refine X.lk ?_
                  refine X.pT h27 ?_
                  refine X.nil ?_
                  refine ES.seq ?_
                  refine VS.cond (fun h28 => ?_) (fun h28 => ?_)
                  · refine VS.drawn ?_
                    refine X.lk ?_
                    refine X.lk ?_
                    refine X.lk ?_
                    refine X.lk ?_
                    refine X.lk ?_
                    refine X.lenT ?_
                    refine X.call true [] [0] (draw_Next_ok x9.2 (((atD p1.Funcs i1).Slots).length : Int)) (fun x10 => ?_) (hn := ⟨rfl, trivial⟩)
                    refine X.lk ?_
                    refine X.call true [] [0] (draw_Int_ok x10.2) (fun x11 => ?_) (hn := ⟨rfl, trivial⟩)
                    refine X.idxM (l := own3) (i := x10.1) (fun h29 => ?_)
                    refine X.set (i := x10.1) x11.1 h29 ?_
                    refine X.nilD ?_ (by kernel_rfl)
                    refine ES.blkN ?_
                    refine ES.blkN ?_
                    exact ES.jn ih_k2 (x11.2, (setD own3 x10.1 x11.1), own4) (St.le_sub ⟨rfl, rfl, rfl, rfl, rfl, trivial⟩ ⟨rfl, rfl, rfl, rfl, rfl, rfl, trivial⟩ rfl)
                  · refine VS.skip ?_
                    refine ES.blkN ?_
                    refine ES.blkN ?_
                    exact ES.jn ih_k2 (x9.2, own3, own4) (St.le_sub ⟨rfl, rfl, rfl, rfl, rfl, trivial⟩ ⟨rfl, rfl, rfl, rfl, rfl, rfl, trivial⟩ rfl)
                · refine X.gN h27 ?_
                  refine X.gN h27 ?_
                  refine X.gN h27 ?_
                  refine X.pF h27 ?_
                  refine X.nil ?_
                  refine ES.seq ?_
                  refine VS.condF rfl ?_
                  refine VS.skip ?_
                  refine ES.blkN ?_
                  refine ES.blkN ?_
                  exact ES.jn ih_k2 (x4.2, own3, own4) (St.le_sub ⟨rfl, rfl, rfl, rfl, rfl, trivial⟩ ⟨rfl, rfl, rfl, rfl, rfl, rfl, trivial⟩ rfl)
              · refine VS.skip ?_
                refine ES.blkN ?_
                refine ES.blkN ?_
                exact ES.jn ih_k2 (x4.2, own3, own4) (St.le_sub ⟨rfl, rfl, rfl, rfl, rfl, trivial⟩ ⟨rfl, rfl, rfl, rfl, rfl, rfl, trivial⟩ rfl)
        · intro k3 ih_k3
          refine VS.seq ?_
          refine VS.region ?_
          refine X.lk ?_
          refine X.lk ?_
          refine X.nil ?_
          refine ES.seq ?_
          refine VS.cond (fun h30 => ?_) (fun h30 => ?_)
          · refine VS.skip ?_
            exact ES.jn ih_k3 (decide (x4.1 = 0)) (St.le_sub ⟨rfl, rfl, rfl, rfl, rfl, rfl, rfl, rfl, trivial⟩ ⟨rfl, rfl, rfl, rfl, rfl, rfl, trivial⟩ rfl)
          · refine VS.region ?_
            refine X.lk ?_
            refine X.lk ?_
            refine X.nil ?_
            exact ES.jn ih_k3 (decide (x4.1 = 1)) (St.le_sub ⟨rfl, rfl, rfl, rfl, rfl, rfl, rfl, rfl, trivial⟩ ⟨rfl, rfl, rfl, rfl, rfl, rfl, trivial⟩ rfl)
    · refine VS.exit ?_
      refine ES.thnE ?_
      refine ES.thnE ?_
      refine ES.blkE ?_
      refine ES.seq ?_
      refine VS.seq ?_
      refine VS.region ?_
      refine X.lk ?_
      refine X.st ?_
      refine X.nil ?_
      refine ES.seq ?_
      refine VS.ret ?_
      refine ES.ret ?_
      exact Ret.weak (St.le_tcell _ 1 0 4 rfl rfl rfl rfl) (Ret.weak (St.le_tcell _ 1 1 5 rfl rfl rfl rfl) (Ret.clo [.agg ((row_ARename (⟨own3, own4⟩ : ARename)).map .v)] ⟨⟨_, _, _, _, _, _, rfl, rfl, fits rfl, rfl⟩, trivial⟩ ⟨rfl, trivial⟩))
  · intro k1 ih_k1
    refine VS.seq ?_
    refine VS.region ?_
    refine X.lk ?_
    refine X.call true [] [0] (draw_Next_ok c1 3) (fun x12 => ?_) (hn := ⟨rfl, trivial⟩)
    refine X.lk ?_
    refine X.nil ?_
    refine ES.seq ?_
    refine VS.cond (fun h31 => ?_) (fun h31 => ?_)
    · refine VS.seq ?_
      refine VS.seq ?_
      refine VS.region ?_
      refine X.lk ?_
      refine X.nil ?_
      refine ES.seq ?_
      refine VS.block ?_
      refine VS.loop (fun jj : Int × List Int => (⟨[(0, .w (.c (.ptr 0 0 0))), (6, .w (.c (.ptr 1 0 0))), (7, .w (.c (.ptr 2 0 0))), (9, .w (.c (.ptr 3 0 0))), (10, .w (.c (.v (.int .i64 jj.1))))], [some (.bx 105 ((row_DCodes x12.2).map .v)), some (.bx 38 [.v (.tree (([] : List Int).map iRow)), .v (.tree (([] : List Bool).map oRow))]), some (.bx 35 ((row_AFunc (atD p1.Funcs i1)).map .v)), some (.bx 38 [.mref 4, .mref 5]), some (.sl 3 1 false (jj.2.map iRow)), some (.sl 4 1 false (x1.Rename.Keep.map oRow))]⟩ : St)) (j0 := (0, x1.Rename.To)) ((St.le_drop _ 1 (Nat.le_of_ble_eq_true rfl)).trans ((St.le_drop _ 4 (Nat.le_of_ble_eq_true rfl)).trans ((St.le_mvB _ 2 1 rfl rfl rfl rfl).trans ((St.le_mvB _ 3 2 rfl rfl rfl rfl).trans ((St.le_mvB _ 7 3 rfl rfl rfl rfl).trans ((St.le_mvB _ 5 4 rfl rfl rfl rfl).trans ((St.le_mvB _ 6 5 rfl rfl rfl rfl).trans (St.le_sub ⟨rfl, rfl, rfl, rfl, rfl, trivial⟩ ⟨rfl, rfl, rfl, rfl, rfl, rfl, trivial⟩ rfl)))))))) ?_
      rintro n4 again3 ih_again3 ⟨s1, own8⟩
      refine VS.seq ?_
      refine VS.seq ?_
      refine VS.region ?_
      refine X.lk ?_
      refine X.lk ?_
      refine X.lk ?_
      refine X.lenM (l := own8) ?_
      refine X.lk ?_
      refine X.nil ?_
      refine ES.seq ?_
      refine VS.cond (fun h32 => ?_) (fun h32 => ?_)
      · refine VS.skip ?_
        refine ES.seq ?_
        refine VS.seq ?_
        refine VS.block ?_
        refine VS.region ?_
        refine X.lk ?_
        refine X.lk ?_
        refine X.lk ?_
        refine X.lk ?_
        refine X.idxM (l := own8) (i := s1) (fun h33 => ?_)
        refine X.set (i := s1) s1 h33 ?_
        refine X.nil ?_
        refine ES.blkN ?_
        refine ES.seq ?_
        refine VS.region ?_
        refine X.lk ?_
        refine X.ck fun h34 => ?_
        refine X.lk ?_
        refine X.nil ?_
        exact ES.go ih_again3 ((s1 + 1), (setD own8 s1 s1)) (St.le_sub ⟨rfl, rfl, rfl, rfl, rfl, trivial⟩ ⟨rfl, rfl, rfl, rfl, rfl, rfl, trivial⟩ rfl)
      · refine VS.exit ?_
        refine ES.thnE ?_
        refine ES.thnE ?_
        refine ES.blkE ?_
        refine ES.seq ?_
        refine VS.seq ?_
        refine VS.region ?_
        refine X.lk ?_
        refine X.nil ?_
        refine ES.seq ?_
        refine VS.block ?_
        refine VS.loop (fun jj : Int × List Bool => (⟨[(0, .w (.c (.ptr 0 0 0))), (6, .w (.c (.ptr 1 0 0))), (7, .w (.c (.ptr 2 0 0))), (9, .w (.c (.ptr 3 0 0))), (11, .w (.c (.v (.int .i64 jj.1))))], [some (.bx 105 ((row_DCodes x12.2).map .v)), some (.bx 38 [.v (.tree (([] : List Int).map iRow)), .v (.tree (([] : List Bool).map oRow))]), some (.bx 35 ((row_AFunc (atD p1.Funcs i1)).map .v)), some (.bx 38 [.mref 4, .mref 5]), some (.sl 3 1 false (own8.map iRow)), some (.sl 4 1 false (jj.2.map oRow))]⟩ : St)) (j0 := (0, x1.Rename.Keep)) (St.le_sub ⟨rfl, rfl, rfl, rfl, rfl, trivial⟩ ⟨rfl, rfl, rfl, rfl, rfl, rfl, trivial⟩ rfl) ?_
        rintro n5 again4 ih_again4 ⟨k4, own9⟩
        refine VS.seq ?_
        refine VS.seq ?_
        refine VS.region ?_
        refine X.lk ?_
        refine X.lk ?_
        refine X.lk ?_
        refine X.lenM (l := own9) ?_
        refine X.lk ?_
        refine X.nil ?_
        refine ES.seq ?_
        refine VS.cond (fun h35 => ?_) (fun h35 => ?_)
        · refine VS.skip ?_
          refine ES.seq ?_
          refine VS.seq ?_
          refine VS.block ?_
          refine VS.region ?_
          refine X.lk ?_
          refine X.lk ?_
          refine X.lk ?_
          refine X.idxM (l := own9) (i := k4) (fun h36 => ?_)
          refine X.set (i := k4) true h36 ?_
          refine X.nil ?_
          refine ES.blkN ?_
          refine ES.seq ?_
          refine VS.region ?_
          refine X.lk ?_
          refine X.ck fun h37 => ?_
          refine X.lk ?_
          refine X.nil ?_
          exact ES.go ih_again4 ((k4 + 1), (setD own9 k4 true)) (St.le_sub ⟨rfl, rfl, rfl, rfl, rfl, trivial⟩ ⟨rfl, rfl, rfl, rfl, rfl, rfl, trivial⟩ rfl)
        · refine VS.exit ?_
          refine ES.thnE ?_
          refine ES.thnE ?_
          refine ES.blkE ?_
          exact ES.jn ih_k1 (x12.2, own8, own9) (St.le_sub ⟨rfl, rfl, rfl, rfl, trivial⟩ ⟨rfl, rfl, rfl, rfl, rfl, rfl, trivial⟩ rfl)
    · refine VS.skip ?_
      exact ES.jn ih_k1 (x12.2, x1.Rename.To, x1.Rename.Keep) ((St.le_drop _ 1 (Nat.le_of_ble_eq_true rfl)).trans ((St.le_drop _ 4 (Nat.le_of_ble_eq_true rfl)).trans ((St.le_mvB _ 2 1 rfl rfl rfl rfl).trans ((St.le_mvB _ 3 2 rfl rfl rfl rfl).trans ((St.le_mvB _ 7 3 rfl rfl rfl rfl).trans ((St.le_mvB _ 5 4 rfl rfl rfl rfl).trans ((St.le_mvB _ 6 5 rfl rfl rfl rfl).trans (St.le_sub ⟨rfl, rfl, rfl, rfl, trivial⟩ ⟨rfl, rfl, rfl, rfl, rfl, rfl, trivial⟩ rfl))))))))
set_option maxHeartbeats 4000000 in
theorem coalesce_Valid_ok (f1 : AFunc) (to1 : List Int) : ∀ r : Bool, coalesce_Valid f1 to1 r → FCalls Try.prog 18 [] [.agg ((row_AFunc f1).map .v), .c (.v (.tree (to1.map iRow)))] (.w (.c (.v (.bool r)))) [] [] := by
  refine fnS 52 ?_
  unfold coalesce_Valid
  refine VS.seq ?_
  refine VS.region ?_
  refine X.box 0 ?_
  refine X.lk ?_
  refine X.nil ?_
  refine ES.seq ?_
  refine VS.seq ?_
  refine VS.seq ?_
  refine VS.region ?_
  refine X.lk ?_
  refine X.lenT ?_
  refine X.lk ?_
  refine X.lk ?_
  refine X.lenT ?_
  refine X.lk ?_
  refine X.nil ?_
  refine ES.seq ?_
  refine VS.cond (fun h1 => ?_) (fun h1 => ?_)
  · refine VS.seq ?_
    refine VS.region ?_
    refine X.lk ?_
    refine X.nil ?_
    refine ES.seq ?_
    refine VS.ret ?_
    refine ES.thnR ?_
    refine ES.ret ?_
    exact Ret.clo [.c (.v (.bool false))] ⟨rfl, trivial⟩ trivial
  · refine VS.skip ?_
    refine ES.seq ?_
    refine VS.seq ?_
    refine VS.seq ?_
    refine VS.region ?_
    refine X.lk ?_
    refine X.lenT ?_
    refine X.lk ?_
    refine X.nil ?_
    refine ES.seq ?_
    refine VS.block ?_
    refine VS.loop (fun (x1 : Int) => (⟨[(1, .w (.c (.v (.tree (to1.map iRow))))), (2, .w (.c (.ptr 0 0 0))), (13, .w (.c (.v (.tree (to1.map iRow))))), (14, .w (.c (.v (.int .i64 (to1.length : Int))))), (15, .w (.c (.v (.int .i64 x1))))], [some (.bx 35 ((row_AFunc f1).map .v))]⟩ : St)) (j0 := 0) (St.le_sub ⟨rfl, rfl, rfl, rfl, rfl, trivial⟩ ⟨rfl, trivial⟩ rfl) ?_
    rintro n1 again1 ih_again1 x1
    refine VS.seq ?_
    refine VS.region ?_
    refine X.lk ?_
    refine X.nil ?_
    refine ES.seq ?_
    refine VS.seq ?_
    refine VS.cond (fun h2 => ?_) (fun h2 => ?_)
    · refine VS.skip ?_
      refine ES.seq ?_
      refine VS.seq ?_
      refine VS.block ?_
      refine VS.seq ?_
      refine VS.region ?_
      refine X.lk ?_
      refine X.idxT (fun h3 => ?_)
      refine X.lk ?_
      refine X.lk ?_
      refine X.lk ?_
      refine X.nil ?_
      refine ES.seq ?_
      refine VS.seq ?_
      refine VS.drawn ?_
      refine X.lk ?_
      refine X.lk ?_
      refine X.lk ?_
      refine X.bif (b := (decide ((atD to1 x1) < 0))) (fun h4 => ?_) (fun h4 => ?_)
      · refine X.gN h4 ?_
        refine X.gN h4 ?_
        refine X.gN h4 ?_
        refine X.gN h4 ?_
        refine X.pT h4 ?_
        refine X.lk ?_
        refine X.gN rfl ?_
        refine X.gN rfl ?_
        refine X.gN rfl ?_
        refine X.gN rfl ?_
        refine X.gN rfl ?_
        refine X.gN rfl ?_
        refine X.gN rfl ?_
        refine X.gN rfl ?_
        refine X.gN rfl ?_
        refine X.gN rfl ?_
        refine X.gN rfl ?_
        refine X.gN rfl ?_
        refine X.gN rfl ?_
        refine X.pT rfl ?_
        refine X.lk ?_
        refine X.gN rfl ?_
        refine X.gN rfl ?_
        refine X.gN rfl ?_
        refine X.gN rfl ?_
        refine X.gN rfl ?_
        refine X.gN rfl ?_
        refine X.pT rfl ?_
        refine X.nilD ?_ (by kernel_rfl)
        refine ES.seq ?_
        refine VS.condT rfl ?_
        refine VS.seq ?_
        refine VS.region ?_
        refine X.lk ?_
        refine X.nil ?_
        refine ES.seq ?_
        refine VS.ret ?_
        refine ES.blkR ?_
        refine ES.thnR ?_
        refine ES.thnR ?_
        refine ES.blkR ?_
        refine ES.thnR ?_
        refine ES.ret ?_
        exact Ret.clo [.c (.v (.bool false))] ⟨rfl, trivial⟩ trivial
      · refine X.gY h4 ?_
        refine X.lk ?_
        refine X.gY h4 ?_
        refine X.lk ?_
        refine X.gY h4 ?_
        refine X.lenT ?_
        refine X.gY h4 ?_
        refine X.lk ?_
        refine X.pF h4 ?_
        refine X.lk ?_
        refine X.bif (b := (decide ((to1.length : Int) ≤ (atD to1 x1)))) (fun h5 => ?_) (fun h5 => ?_)
        · refine X.gN h5 ?_
          refine X.gN h5 ?_
          refine X.gN h5 ?_
          refine X.gN h5 ?_
          refine X.gN h5 ?_
          refine X.gN h5 ?_
          refine X.gN h5 ?_
          refine X.gN h5 ?_
          refine X.gN h5 ?_
          refine X.gN h5 ?_
          refine X.gN h5 ?_
          refine X.gN h5 ?_
          refine X.gN h5 ?_
          refine X.pT h5 ?_
          refine X.lk ?_
          refine X.gN rfl ?_
          refine X.gN rfl ?_
          refine X.gN rfl ?_
          refine X.gN rfl ?_
          refine X.gN rfl ?_
          refine X.gN rfl ?_
          refine X.pT rfl ?_
          refine X.nilD ?_ (by kernel_rfl)
          refine ES.seq ?_
          refine VS.condT rfl ?_
          refine VS.seq ?_
          refine VS.region ?_
          refine X.lk ?_
          refine X.nil ?_
          refine ES.seq ?_
          refine VS.ret ?_
          refine ES.blkR ?_
          refine ES.thnR ?_
          refine ES.thnR ?_
          refine ES.blkR ?_
          refine ES.thnR ?_
          refine ES.ret ?_
          exact Ret.clo [.c (.v (.bool false))] ⟨rfl, trivial⟩ trivial
        · refine X.gY h5 ?_
          refine X.lk ?_
          refine X.gY h5 ?_
          refine X.lk ?_
          refine X.gY h5 ?_
          refine X.lk ?_
          refine X.gY h5 ?_
          refine X.idxT (fun h6 => ?_)
          refine X.gY h5 ?_
          refine X.lk ?_
          refine X.gY h5 ?_
          refine X.lk ?_
          refine X.gY h5 ?_
          refine X.lk ?_
          refine X.gY h5 ?_
          refine X.lk ?_
          refine X.gY h5 ?_
          refine X.lk ?_
          refine X.gY h5 ?_
          refine X.idxT (fun h7 => ?_)
          refine X.gY h5 ?_
          refine X.lk ?_
          refine X.gY h5 ?_
          refine X.lk ?_
          refine X.gY h5 ?_
          refine X.lk ?_
          refine X.pF h5 ?_
          refine X.lk ?_
          refine X.bif (b := (!decide (((atD f1.Slots (atD to1 x1)).Size) = ((atD f1.Slots x1).Size)))) (fun h8 => ?_) (fun h8 => ?_)
          · refine X.gN h8 ?_
            refine X.gN h8 ?_
            refine X.gN h8 ?_
            refine X.gN h8 ?_
            refine X.gN h8 ?_
            refine X.gN h8 ?_
            refine X.pT h8 ?_
            refine X.nilD ?_ (by kernel_rfl)
            refine ES.seq ?_
            refine VS.condT rfl ?_
            refine VS.seq ?_
            refine VS.region ?_
            refine X.lk ?_
            refine X.nil ?_
            refine ES.seq ?_
            refine VS.ret ?_
            refine ES.blkR ?_
            refine ES.thnR ?_
            refine ES.thnR ?_
            refine ES.blkR ?_
            refine ES.thnR ?_
            refine ES.ret ?_
            exact Ret.clo [.c (.v (.bool false))] ⟨rfl, trivial⟩ trivial
          · refine X.gY h8 ?_
            refine X.lk ?_
            refine X.gY h8 ?_
            refine X.lk ?_
            refine X.gY h8 ?_
            refine X.idxT (fun h9 => ?_)
            refine X.gY h8 ?_
            refine X.lk ?_
            refine X.gY h8 ?_
            refine X.lk ?_
            refine X.gY h8 ?_
            refine X.lk ?_
            refine X.pF h8 ?_
            refine X.nilD ?_ (by kernel_rfl)
            refine ES.seq ?_
            refine VS.cond (fun h10 => ?_) (fun h10 => ?_)
            · refine VS.seq ?_
              refine VS.region ?_
              refine X.lk ?_
              refine X.nil ?_
              refine ES.seq ?_
              refine VS.ret ?_
              refine ES.blkR ?_
              refine ES.thnR ?_
              refine ES.thnR ?_
              refine ES.blkR ?_
              refine ES.thnR ?_
              refine ES.ret ?_
              exact Ret.clo [.c (.v (.bool false))] ⟨rfl, trivial⟩ trivial
            · refine VS.skip ?_
              refine ES.blkN ?_
              refine ES.seq ?_
              refine VS.region ?_
              refine X.ck fun h11 => ?_
              refine X.lk ?_
              refine X.nil ?_
              exact ES.go ih_again1 (x1 + 1) (St.le_sub ⟨rfl, rfl, rfl, rfl, rfl, trivial⟩ ⟨rfl, trivial⟩ rfl)
    · refine VS.exit ?_
      refine ES.thnE ?_
      refine ES.thnE ?_
      refine ES.blkE ?_
      refine ES.seq ?_
      refine VS.seq ?_
      refine VS.region ?_
      refine X.lk ?_
      refine X.nil ?_
      refine ES.seq ?_
      refine VS.ret ?_
      refine ES.ret ?_
      exact Ret.clo [.c (.v (.bool true))] ⟨rfl, trivial⟩ trivial
set_option maxHeartbeats 4000000 in
theorem coalesce_Saved_ok (f1 : AFunc) (to1 : List Int) : ∀ r : Int, coalesce_Saved f1 to1 r → FCalls Try.prog 20 [] [.agg ((row_AFunc f1).map .v), .c (.v (.tree (to1.map iRow)))] (.w (.c (.v (.int .i64 r)))) [] [] := by
  refine fnS 38 ?_
  unfold coalesce_Saved
  refine VS.seq ?_
  refine VS.region ?_
  refine X.box 0 ?_
  refine X.lk ?_
  refine X.nil ?_
  refine ES.seq ?_
  refine VS.seq ?_
  refine VS.region ?_
  refine X.lk ?_
  refine X.nil ?_
  refine ES.seq ?_
  refine VS.seq ?_
  refine VS.seq ?_
  refine VS.region ?_
  refine X.lk ?_
  refine X.lk ?_
  refine X.call true [] [] (coalesce_Valid_ok f1 to1) (fun x1 => ?_)
  refine X.nil ?_
  refine ES.seq ?_
  refine VS.cond (fun h1 => ?_) (fun h1 => ?_)
  · refine VS.seq ?_
    refine VS.region ?_
    refine X.lk ?_
    refine X.lk ?_
    refine X.lenT ?_
    refine X.lk ?_
    refine X.nil ?_
    refine ES.seq ?_
    refine VS.block ?_
    refine VS.loop (fun jj : Int × Int => (⟨[(1, .w (.c (.v (.tree (to1.map iRow))))), (5, .w (.c (.v (.int .i64 jj.1)))), (12, .w (.c (.v (.tree (f1.Code.map row_AInstr))))), (13, .w (.c (.v (.int .i64 (f1.Code.length : Int))))), (14, .w (.c (.v (.int .i64 jj.2))))], []⟩ : St)) (j0 := (0, 0)) (St.le_sub ⟨rfl, rfl, rfl, rfl, rfl, trivial⟩ trivial rfl) ?_
    rintro n2 again1 ih_again1 ⟨n1, x2⟩
    refine VS.seq ?_
    refine VS.region ?_
    refine X.lk ?_
    refine X.nil ?_
    refine ES.seq ?_
    refine VS.seq ?_
    refine VS.cond (fun h2 => ?_) (fun h2 => ?_)
    · refine VS.skip ?_
      refine ES.seq ?_
      refine VS.seq ?_
      refine VS.block ?_
      refine VS.seq ?_
      refine VS.region ?_
      refine X.idxT (fun h3 => ?_)
      refine X.lk ?_
      refine X.alloc 0 ?_
      refine X.st ?_
      refine X.nil ?_
      refine ES.seq ?_
      refine VS.seq ?_
      refine VS.drawn ?_
      refine X.lk ?_
      refine X.lk ?_
      refine X.lk ?_
      refine X.lk ?_
      refine X.bif (b := (decide (((atD f1.Code x2).Op) = 17))) (fun h4 => ?_) (fun h4 => ?_)
      · refine X.gY h4 ?_
        refine X.lk ?_
        refine X.gY h4 ?_
        refine X.lk ?_
        refine X.gY h4 ?_
        refine X.lk ?_
        refine X.gY h4 ?_
        refine X.idxT (fun h5 => ?_)
        refine X.gY h4 ?_
        refine X.lk ?_
        refine X.gY h4 ?_
        refine X.lk ?_
        refine X.gY h4 ?_
        refine X.lk ?_
        refine X.gY h4 ?_
        refine X.lk ?_
        refine X.gY h4 ?_
        refine X.idxT (fun h6 => ?_)
        refine X.gY h4 ?_
        refine X.lk ?_
        refine X.gY h4 ?_
        refine X.lk ?_
        refine X.pT h4 ?_
        refine X.nilD ?_ (by kernel_rfl)
        refine ES.seq ?_
        refine VS.cond (fun h7 => ?_) (fun h7 => ?_)
        · refine VS.region ?_
          refine X.lk ?_
          refine X.ck fun h8 => ?_
          refine X.lk ?_
          refine X.nil ?_
          refine ES.blkN ?_
          refine ES.seq ?_
          refine VS.region ?_
          refine X.ck fun h9 => ?_
          refine X.lk ?_
          refine X.nil ?_
          exact ES.go ih_again1 ((n1 + 1), (x2 + 1)) (St.le_sub ⟨rfl, rfl, rfl, rfl, rfl, trivial⟩ trivial rfl)
        · refine VS.skip ?_
          refine ES.blkN ?_
          refine ES.seq ?_
          refine VS.region ?_
          refine X.ck fun h10 => ?_
          refine X.lk ?_
          refine X.nil ?_
          exact ES.go ih_again1 (n1, (x2 + 1)) (St.le_sub ⟨rfl, rfl, rfl, rfl, rfl, trivial⟩ trivial rfl)
      · refine X.gN h4 ?_
        refine X.gN h4 ?_
        refine X.gN h4 ?_
        refine X.gN h4 ?_
        refine X.gN h4 ?_
        refine X.gN h4 ?_
        refine X.gN h4 ?_
        refine X.gN h4 ?_
        refine X.gN h4 ?_
        refine X.gN h4 ?_
        refine X.gN h4 ?_
        refine X.pF h4 ?_
        refine X.nilD ?_ (by kernel_rfl)
        refine ES.seq ?_
        refine VS.condF rfl ?_
        refine VS.skip ?_
        refine ES.blkN ?_
        refine ES.seq ?_
        refine VS.region ?_
        refine X.ck fun h11 => ?_
        refine X.lk ?_
        refine X.nil ?_
        exact ES.go ih_again1 (n1, (x2 + 1)) (St.le_sub ⟨rfl, rfl, rfl, rfl, rfl, trivial⟩ trivial rfl)
    · refine VS.exit ?_
      refine ES.thnE ?_
      refine ES.thnE ?_
      refine ES.blkE ?_
      refine ES.seq ?_
      refine VS.seq ?_
      refine VS.region ?_
      refine X.lk ?_
      refine X.lk ?_
      refine X.nil ?_
      refine ES.seq ?_
      refine VS.ret ?_
      refine ES.ret ?_
      exact Ret.clo [.c (.v (.int .i64 n1))] ⟨rfl, trivial⟩ trivial
  · refine VS.skip ?_
    refine ES.seq ?_
    refine VS.seq ?_
    refine VS.region ?_
    refine X.lk ?_
    refine X.lk ?_
    refine X.nil ?_
    refine ES.seq ?_
    refine VS.ret ?_
    refine ES.ret ?_
    exact Ret.clo [.c (.v (.int .i64 0))] ⟨rfl, trivial⟩ trivial
set_option maxHeartbeats 4000000 in
theorem r19_Saved_ok (f1 : AFunc) (to1 : List Int) : ∀ r : Int, r19_Saved f1 to1 r → FCalls Try.prog 21 [] [.agg ((row_AFunc f1).map .v), .c (.v (.tree (to1.map iRow)))] (.w (.c (.v (.int .i64 r)))) [] [] := by
  refine fnS 44 ?_
  unfold r19_Saved
  refine VS.seq ?_
  refine VS.region ?_
  refine X.box 0 ?_
  refine X.lk ?_
  refine X.nil ?_
  refine ES.seq ?_
  refine VS.seq ?_
  refine VS.region ?_
  refine X.lk ?_
  refine X.nil ?_
  refine ES.seq ?_
  refine VS.seq ?_
  refine VS.seq ?_
  refine VS.region ?_
  refine X.lk ?_
  refine X.nil ?_
  refine ES.seq ?_
  refine VS.block ?_
  refine VS.loop (fun jj : Int × Int => (⟨[(1, .w (.c (.v (.tree (to1.map iRow))))), (2, .w (.c (.ptr 0 0 0))), (5, .w (.c (.v (.int .i64 jj.1)))), (6, .w (.c (.v (.int .i64 jj.2))))], [some (.bx 35 ((row_AFunc f1).map .v))]⟩ : St)) (j0 := (0, 0)) (St.le_sub ⟨rfl, rfl, rfl, rfl, trivial⟩ ⟨rfl, trivial⟩ rfl) ?_
  rintro n2 again1 ih_again1 ⟨n1, k1⟩
  refine VS.seq ?_
  refine VS.seq ?_
  refine VS.region ?_
  refine X.lk ?_
  refine X.lk ?_
  refine X.lk ?_
  refine X.lenT ?_
  refine X.lk ?_
  refine X.lk ?_
  refine X.bif (b := (decide (k1 < (f1.Code.length : Int)))) (fun h1 => ?_) (fun h1 => ?_)
  · refine X.gY h1 ?_
    refine X.lk ?_
    refine X.gY h1 ?_
    refine X.lk ?_
    refine X.gY h1 ?_
    refine X.call true [] [] (r19_Valid_ok f1 to1) (fun x1 => ?_)
    refine X.pT h1 ?_
    refine X.nil ?_
    refine ES.seq ?_
    refine VS.cond (fun h2 => ?_) (fun h2 => ?_)
    · refine VS.skip ?_
      refine ES.seq ?_
      refine VS.seq ?_
      refine VS.block ?_
      refine VS.seq ?_
      refine VS.region ?_
      refine X.lk ?_
      refine X.lk ?_
      refine X.lk ?_
      refine X.idxT (fun h3 => ?_)
      refine X.lk ?_
      refine X.alloc 1 ?_
      refine X.st ?_
      refine X.nil ?_
      refine ES.seq ?_
      refine VS.seq ?_
      refine VS.drawn ?_
      refine X.lk ?_
      refine X.lk ?_
      refine X.lk ?_
      refine X.lk ?_
      refine X.bif (b := (decide (((atD f1.Code k1).Op) = 17))) (fun h4 => ?_) (fun h4 => ?_)
      · refine X.gY h4 ?_
        refine X.lk ?_
        refine X.gY h4 ?_
        refine X.lk ?_
        refine X.gY h4 ?_
        refine X.lk ?_
        refine X.gY h4 ?_
        refine X.idxT (fun h5 => ?_)
        refine X.gY h4 ?_
        refine X.lk ?_
        refine X.gY h4 ?_
        refine X.lk ?_
        refine X.gY h4 ?_
        refine X.lk ?_
        refine X.gY h4 ?_
        refine X.lk ?_
        refine X.gY h4 ?_
        refine X.idxT (fun h6 => ?_)
        refine X.gY h4 ?_
        refine X.lk ?_
        refine X.gY h4 ?_
        refine X.lk ?_
        refine X.pT h4 ?_
        refine X.nilD ?_ (by kernel_rfl)
        refine ES.seq ?_
        refine VS.cond (fun h7 => ?_) (fun h7 => ?_)
        · refine VS.region ?_
          refine X.lk ?_
          refine X.ck fun h8 => ?_
          refine X.lk ?_
          refine X.nil ?_
          refine ES.blkN ?_
          refine ES.seq ?_
          refine VS.region ?_
          refine X.lk ?_
          refine X.ck fun h9 => ?_
          refine X.lk ?_
          refine X.nil ?_
          exact ES.go ih_again1 ((n1 + 1), (k1 + 1)) (St.le_sub ⟨rfl, rfl, rfl, rfl, trivial⟩ ⟨rfl, trivial⟩ rfl)
        · refine VS.skip ?_
          refine ES.blkN ?_
          refine ES.seq ?_
          refine VS.region ?_
          refine X.lk ?_
          refine X.ck fun h10 => ?_
          refine X.lk ?_
          refine X.nil ?_
          exact ES.go ih_again1 (n1, (k1 + 1)) (St.le_sub ⟨rfl, rfl, rfl, rfl, trivial⟩ ⟨rfl, trivial⟩ rfl)
      · refine X.gN h4 ?_
        refine X.gN h4 ?_
        refine X.gN h4 ?_
        refine X.gN h4 ?_
        refine X.gN h4 ?_
        refine X.gN h4 ?_
        refine X.gN h4 ?_
        refine X.gN h4 ?_
        refine X.gN h4 ?_
        refine X.gN h4 ?_
        refine X.gN h4 ?_
        refine X.pF h4 ?_
        refine X.nilD ?_ (by kernel_rfl)
        refine ES.seq ?_
        refine VS.condF rfl ?_
        refine VS.skip ?_
        refine ES.blkN ?_
        refine ES.seq ?_
        refine VS.region ?_
        refine X.lk ?_
        refine X.ck fun h11 => ?_
        refine X.lk ?_
        refine X.nil ?_
        exact ES.go ih_again1 (n1, (k1 + 1)) (St.le_sub ⟨rfl, rfl, rfl, rfl, trivial⟩ ⟨rfl, trivial⟩ rfl)
    · refine VS.exit ?_
      refine ES.thnE ?_
      refine ES.thnE ?_
      refine ES.blkE ?_
      refine ES.seq ?_
      refine VS.seq ?_
      refine VS.region ?_
      refine X.lk ?_
      refine X.lk ?_
      refine X.nil ?_
      refine ES.seq ?_
      refine VS.ret ?_
      refine ES.ret ?_
      exact Ret.clo [.c (.v (.int .i64 n1))] ⟨rfl, trivial⟩ trivial
  · refine X.gN h1 ?_
    refine X.gN h1 ?_
    refine X.gN h1 ?_
    refine X.pF h1 ?_
    refine X.nil ?_
    refine ES.seq ?_
    refine VS.condF rfl ?_
    refine VS.exit ?_
    refine ES.thnE ?_
    refine ES.thnE ?_
    refine ES.blkE ?_
    refine ES.seq ?_
    refine VS.seq ?_
    refine VS.region ?_
    refine X.lk ?_
    refine X.lk ?_
    refine X.nil ?_
    refine ES.seq ?_
    refine VS.ret ?_
    refine ES.ret ?_
    exact Ret.clo [.c (.v (.int .i64 n1))] ⟨rfl, trivial⟩ trivial
end Go.Proofs.Ytbppgdffochdmaa.Q
