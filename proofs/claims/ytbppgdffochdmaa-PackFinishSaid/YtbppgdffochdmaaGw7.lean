/- Walks of functions: the code does what the lifted text says (written by a program). -/
import Derived.Test.YtbppgdffochdmaaGw6
set_option linter.unusedVariables false
set_option linter.unusedSimpArgs false
set_option maxRecDepth 8000
namespace Go.Proofs.Ytbppgdffochdmaa.Q
open Go.RowKit
set_option maxHeartbeats 4000000 in
theorem r31_Only_ok (p1 : AProgram) (i1 : Int) (f1 : AFunc) : ∀ r : AProgram, r31_Only p1 i1 f1 r → FCalls Try.prog 95 [] [.agg ((row_AProgram p1).map .v), .c (.v (.int .i64 i1)), .agg ((row_AFunc f1).map .v)] (.w (.agg ((row_AProgram r).map .v))) [] [] := by
  refine fnS 11 ?_
  unfold r31_Only
  refine VS.seq ?_
  refine VS.region ?_
  refine X.box 0 ?_
  refine X.box 1 ?_
  refine X.alloc 2 ?_
  refine X.nil ?_
  refine ES.seq ?_
  refine VS.seq ?_
  refine VS.region ?_
  refine X.lk ?_
  refine X.lk ?_
  refine X.lk ?_
  refine X.call true [] [] (r21_Replace_ok p1 i1 f1) (fun x1 => ?_)
  refine X.st ?_
  refine X.nil ?_
  refine ES.seq ?_
  refine VS.ret ?_
  refine ES.ret ?_
  exact Ret.clo [.agg ((row_AProgram x1).map .v)] ⟨⟨_, _, _, _, _, _, rfl, rfl, fits rfl, rfl⟩, trivial⟩ trivial
set_option maxHeartbeats 4000000 in
theorem r23_End_ok (s1 : List ASlot) (off1 : List Int) : ∀ r : Int, r23_End s1 off1 r → FCalls Try.prog 71 [] [.c (.v (.tree (s1.map row_ASlot))), .c (.v (.tree (off1.map iRow)))] (.w (.c (.v (.int .i64 r)))) [] [] := by
  refine fnS 32 ?_
  unfold r23_End
  refine VS.seq ?_
  refine VS.region ?_
  refine X.lk ?_
  refine X.nil ?_
  refine ES.seq ?_
  refine VS.seq ?_
  refine VS.region ?_
  refine X.lk ?_
  refine X.nil ?_
  refine ES.seq ?_
  refine VS.seq ?_
  refine VS.seq ?_
  refine VS.region ?_
  refine X.lk ?_
  refine X.nil ?_
  refine ES.seq ?_
  refine VS.block ?_
  refine VS.loop (fun jj : Int × Int => (⟨[(0, .w (.c (.v (.tree (s1.map row_ASlot))))), (1, .w (.c (.v (.tree (off1.map iRow))))), (5, .w (.c (.v (.int .i64 jj.1)))), (6, .w (.c (.v (.int .i64 jj.2))))], []⟩ : St)) (j0 := (0, 0)) (St.le_sub ⟨rfl, rfl, rfl, rfl, trivial⟩ trivial rfl) ?_
  rintro n2 again1 ih_again1 ⟨n1, i1⟩
  refine VS.seq ?_
  refine VS.seq ?_
  refine VS.region ?_
  refine X.lk ?_
  refine X.lk ?_
  refine X.lenT ?_
  refine X.lk ?_
  refine X.lk ?_
  refine X.bif (b := (decide (i1 < (s1.length : Int)))) (fun h1 => ?_) (fun h1 => ?_)
  · refine X.gY h1 ?_
    refine X.lk ?_
    refine X.gY h1 ?_
    refine X.lk ?_
    refine X.gY h1 ?_
    refine X.lenT ?_
    refine X.gY h1 ?_
    refine X.lk ?_
    refine X.pT h1 ?_
    refine X.nil ?_
    refine ES.seq ?_
    refine VS.cond (fun h2 => ?_) (fun h2 => ?_)
    · refine VS.skip ?_
      refine ES.seq ?_
      refine VS.seq ?_
      refine VS.block ?_
      refine VS.drawn ?_
      refine X.lk ?_
      refine X.lk ?_
      refine X.lk ?_
      refine X.idxT (fun h3 => ?_)
      refine X.lk ?_
      refine X.lk ?_
      refine X.lk ?_
      refine X.idxT (fun h4 => ?_)
      refine X.lk ?_
      refine X.lk ?_
      refine X.ck fun h5 => ?_
      refine X.max ?_
      refine X.lk ?_
      refine X.nilD ?_ (by kernel_rfl)
      refine ES.blkN ?_
      refine ES.seq ?_
      refine VS.region ?_
      refine X.lk ?_
      refine X.ck fun h6 => ?_
      refine X.lk ?_
      refine X.nil ?_
      exact ES.go ih_again1 ((max n1 ((atD off1 i1) + ((atD s1 i1).Size))), (i1 + 1)) (St.le_sub ⟨rfl, rfl, rfl, rfl, trivial⟩ trivial rfl)
    · refine VS.exit ?_
      refine ES.thnE ?_
      refine ES.thnE ?_
      refine ES.blkE ?_
      refine ES.seq ?_
      refine VS.seq ?_
      refine VS.region ?_
      refine X.lk ?_
      refine X.lk ?_
      refine X.nil ?_
      refine ES.seq ?_
      refine VS.ret ?_
      refine ES.ret ?_
      exact Ret.clo [.c (.v (.int .i64 n1))] ⟨rfl, trivial⟩ trivial
  · refine X.gN h1 ?_
    refine X.gN h1 ?_
    refine X.gN h1 ?_
    refine X.gN h1 ?_
    refine X.pF h1 ?_
    refine X.nil ?_
    refine ES.seq ?_
    refine VS.condF rfl ?_
    refine VS.exit ?_
    refine ES.thnE ?_
    refine ES.thnE ?_
    refine ES.blkE ?_
    refine ES.seq ?_
    refine VS.seq ?_
    refine VS.region ?_
    refine X.lk ?_
    refine X.lk ?_
    refine X.nil ?_
    refine ES.seq ?_
    refine VS.ret ?_
    refine ES.ret ?_
    exact Ret.clo [.c (.v (.int .i64 n1))] ⟨rfl, trivial⟩ trivial
set_option maxHeartbeats 4000000 in
theorem r24_Finish_ok (p1 : AProgram) (i1 : Int) (align1 : Int) (off1 : List Int) : ∀ r : ALayout × Int, r24_Finish p1 i1 align1 off1 r → FCalls Try.prog 41 [] [.agg ((row_AProgram p1).map .v), .c (.v (.int .i64 i1)), .c (.v (.int .i64 align1)), .c (.v (.tree (off1.map iRow)))] (.tup [.agg ((row_ALayout r.1).map .v), .c (.v (.int .i64 r.2))]) [] [] := by
  refine fnS 71 ?_
  unfold r24_Finish
  refine VS.seq ?_
  refine VS.region ?_
  refine X.box 0 ?_
  refine X.alloc 1 ?_
  refine X.lk ?_
  refine X.nil ?_
  refine ES.seq ?_
  refine VS.seq ?_
  refine VS.region ?_
  refine X.lk ?_
  refine X.lk ?_
  refine X.lk ?_
  refine X.idxT (fun h1 => ?_)
  refine X.lk ?_
  refine X.lk ?_
  refine X.lk ?_
  refine X.nil ?_
  refine ES.seq ?_
  refine VS.seq ?_
  refine VS.seq ?_
  refine VS.region ?_
  refine X.lk ?_
  refine X.lenT ?_
  refine X.lk ?_
  refine X.lenT ?_
  refine X.lk ?_
  refine X.nil ?_
  refine ES.seq ?_
  refine VS.cond (fun h2 => ?_) (fun h2 => ?_)
  · refine VS.seq ?_
    refine VS.region ?_
    refine X.build ?_
    refine X.st ?_
    refine X.lk ?_
    refine X.nil ?_
    refine ES.seq ?_
    refine VS.ret ?_
    refine ES.thnR ?_
    refine ES.ret ?_
    exact Ret.clo [.agg ((row_ALayout (⟨0, 0, ([] : List Int)⟩ : ALayout)).map .v), .c (.v (.int .i64 13))] ⟨⟨_, _, _, _, _, _, rfl, rfl, fits rfl, rfl⟩, rfl, trivial⟩ trivial
  · refine VS.skip ?_
    refine ES.seq ?_
    refine VS.seq ?_
    refine VS.seq ?_
    refine VS.region ?_
    refine X.lk ?_
    refine X.nil ?_
    refine ES.seq ?_
    refine VS.block ?_
    refine VS.loop (fun (k1 : Int) => (⟨[(1, .w (.c (.v (.int .i64 i1)))), (2, .w (.c (.v (.int .i64 align1)))), (3, .w (.c (.v (.tree (off1.map iRow))))), (4, .w (.c (.ptr 0 0 0))), (8, .w (.c (.ptr 1 0 0))), (10, .w (.c (.v (.tree (((atD p1.Funcs i1).Slots).map row_ASlot))))), (11, .w (.c (.v (.int .i64 k1))))], [some (.bx 27 ((row_AProgram p1).map .v)), some (.bx 48 [.v (.int .i64 0), .v (.int .i64 0), .v (.tree (([] : List Int).map iRow))])]⟩ : St)) (j0 := 0) (St.le_sub ⟨rfl, rfl, rfl, rfl, rfl, rfl, rfl, trivial⟩ ⟨rfl, rfl, trivial⟩ rfl) ?_
    rintro n1 again1 ih_again1 k1
    refine VS.seq ?_
    refine VS.seq ?_
    refine VS.region ?_
    refine X.lk ?_
    refine X.lk ?_
    refine X.lenT ?_
    refine X.lk ?_
    refine X.nil ?_
    refine ES.seq ?_
    refine VS.cond (fun h3 => ?_) (fun h3 => ?_)
    · refine VS.skip ?_
      refine ES.seq ?_
      refine VS.seq ?_
      refine VS.block ?_
      refine VS.seq ?_
      refine VS.drawn ?_
      refine X.lk ?_
      refine X.lk ?_
      refine X.idxT (fun h4 => ?_)
      refine X.lk ?_
      refine X.lk ?_
      refine X.lk ?_
      refine X.idxT (fun h5 => ?_)
      refine X.lk ?_
      refine X.lk ?_
      refine X.build ?_
      refine X.call true [] [] (r03_Right_ok (⟨(atD off1 k1), (atD ((atD p1.Funcs i1).Slots) k1).Size⟩ : AInterval)) (fun x1 => ?_)
      refine X.lk ?_
      refine X.nilD ?_ (by kernel_rfl)
      refine ES.seq ?_
      refine VS.cond (fun h6 => ?_) (fun h6 => ?_)
      · refine VS.seq ?_
        refine VS.region ?_
        refine X.build ?_
        refine X.st ?_
        refine X.lk ?_
        refine X.nil ?_
        refine ES.seq ?_
        refine VS.ret ?_
        refine ES.blkR ?_
        refine ES.thnR ?_
        refine ES.thnR ?_
        refine ES.blkR ?_
        refine ES.thnR ?_
        refine ES.ret ?_
        exact Ret.clo [.agg ((row_ALayout (⟨0, 0, ([] : List Int)⟩ : ALayout)).map .v), .c (.v (.int .i64 13))] ⟨⟨_, _, _, _, _, _, rfl, rfl, fits rfl, rfl⟩, rfl, trivial⟩ trivial
      · refine VS.skip ?_
        refine ES.blkN ?_
        refine ES.seq ?_
        refine VS.region ?_
        refine X.lk ?_
        refine X.ck fun h7 => ?_
        refine X.lk ?_
        refine X.nil ?_
        exact ES.go ih_again1 (k1 + 1) (St.le_sub ⟨rfl, rfl, rfl, rfl, rfl, rfl, rfl, trivial⟩ ⟨rfl, rfl, trivial⟩ rfl)
    · refine VS.exit ?_
      refine ES.thnE ?_
      refine ES.thnE ?_
      refine ES.blkE ?_
      refine ES.seq ?_
      refine VS.seq ?_
      refine VS.region ?_
      refine X.lk ?_
      refine X.lk ?_
      refine X.call true [] [] (r24_Args_ok p1 i1) (fun x2 => ?_)
      refine X.lk ?_
      refine X.nil ?_
      refine ES.seq ?_
      refine VS.seq ?_
      refine VS.region ?_
      refine X.lk ?_
      refine X.lk ?_
      refine X.lk ?_
      refine X.call true [] [] (r23_End_ok ((atD p1.Funcs i1).Slots) off1) (fun x3 => ?_)
      refine X.max ?_
      refine X.lk ?_
      refine X.call true [] [] (r03_Up_ok (max x2 x3) align1) (fun x4 => ?_)
      refine X.lk ?_
      refine X.lk ?_
      refine X.lk ?_
      refine X.lk ?_
      refine X.lk ?_
      refine X.nil ?_
      refine ES.seq ?_
      refine VS.seq ?_
      refine VS.seq ?_
      refine VS.region ?_
      refine X.lk ?_
      refine X.lk ?_
      refine X.lk ?_
      refine X.bif (b := (!decide (x4.2 = 0))) (fun h8 => ?_) (fun h8 => ?_)
      · refine X.gN h8 ?_
        refine X.gN h8 ?_
        refine X.pT h8 ?_
        refine X.nil ?_
        refine ES.seq ?_
        refine VS.condT rfl ?_
        refine VS.seq ?_
        refine VS.region ?_
        refine X.build ?_
        refine X.st ?_
        refine X.lk ?_
        refine X.nil ?_
        refine ES.seq ?_
        refine VS.ret ?_
        refine ES.thnR ?_
        refine ES.ret ?_
        exact Ret.clo [.agg ((row_ALayout (⟨0, 0, ([] : List Int)⟩ : ALayout)).map .v), .c (.v (.int .i64 9))] ⟨⟨_, _, _, _, _, _, rfl, rfl, fits rfl, rfl⟩, rfl, trivial⟩ trivial
      · refine X.gY h8 ?_
        refine X.lk ?_
        refine X.gY h8 ?_
        refine X.lk ?_
        refine X.pF h8 ?_
        refine X.nil ?_
        refine ES.seq ?_
        refine VS.cond (fun h9 => ?_) (fun h9 => ?_)
        · refine VS.seq ?_
          refine VS.region ?_
          refine X.build ?_
          refine X.st ?_
          refine X.lk ?_
          refine X.nil ?_
          refine ES.seq ?_
          refine VS.ret ?_
          refine ES.thnR ?_
          refine ES.ret ?_
          exact Ret.clo [.agg ((row_ALayout (⟨0, 0, ([] : List Int)⟩ : ALayout)).map .v), .c (.v (.int .i64 9))] ⟨⟨_, _, _, _, _, _, rfl, rfl, fits rfl, rfl⟩, rfl, trivial⟩ trivial
        · refine VS.skip ?_
          refine ES.seq ?_
          refine VS.seq ?_
          refine VS.region ?_
          refine X.lk ?_
          refine X.lk ?_
          refine X.lk ?_
          refine X.appNT 2 (l' := off1) (fun h10 => ?_)
          refine X.build ?_
          refine X.st ?_
          refine X.lk ?_
          refine X.nil ?_
          refine ES.seq ?_
          refine VS.ret ?_
          refine ES.ret ?_
          exact Ret.weak (St.le_tcell _ 1 2 2 rfl rfl rfl rfl) (Ret.clo [.agg ((row_ALayout (⟨x2, x4.1, off1⟩ : ALayout)).map .v), .c (.v (.int .i64 0))] ⟨⟨_, _, _, _, _, _, rfl, rfl, fits rfl, rfl⟩, rfl, trivial⟩ trivial)
set_option maxHeartbeats 4000000 in
theorem r31_Propose_ok (p1 : AProgram) (i1 : Int) : ∀ r : AProposal, r31_Propose p1 i1 r → FCalls Try.prog 53 [] [.agg ((row_AProgram p1).map .v), .c (.v (.int .i64 i1))] (.w (.agg ((row_AProposal r).map .v))) [] [] := by
  refine fnS 88 ?_
  unfold r31_Propose
  refine VS.seq ?_
  refine VS.region ?_
  refine X.box 0 ?_
  refine X.alloc 1 ?_
  refine X.nil ?_
  refine ES.seq ?_
  refine VS.seq ?_
  refine VS.region ?_
  refine X.lk ?_
  refine X.lk ?_
  refine X.lk ?_
  refine X.idxT (fun h1 => ?_)
  refine X.lk ?_
  refine X.alloc 2 ?_
  refine X.st ?_
  refine X.nil ?_
  refine ES.seq ?_
  refine VS.seq ?_
  refine VS.region ?_
  refine X.lk ?_
  refine X.call true [] [] (r16_Solve_ok (atD p1.Funcs i1)) (fun x1 => ?_)
  refine X.build ?_
  refine X.alloc 3 ?_
  refine X.st ?_
  refine X.nil ?_
  refine ES.seq ?_
  refine VS.seq ?_
  refine VS.region ?_
  refine X.lk ?_
  refine X.lk ?_
  refine X.lk ?_
  refine X.call true [] [] (r18_Graph_ok (atD p1.Funcs i1) x1) (fun x2 => ?_)
  refine X.lk ?_
  refine X.lk ?_
  refine X.lk ?_
  refine X.lk ?_
  refine X.lk ?_
  refine X.nil ?_
  refine ES.seq ?_
  refine VS.seq ?_
  refine VS.region ?_
  refine X.lk ?_
  refine X.lk ?_
  refine X.call true [] [] (r19_Classes_ok (atD p1.Funcs i1) x2.1) (fun x3 => ?_)
  refine X.lk ?_
  refine X.lk ?_
  refine X.st ?_
  refine X.nil ?_
  refine ES.seq ?_
  refine VS.seq ?_
  refine VS.region ?_
  refine X.lk ?_
  refine X.lk ?_
  refine X.lk ?_
  refine X.lk ?_
  refine X.lk ?_
  refine X.lk ?_
  refine X.call true [] [] (r20_Keep_ok (atD p1.Funcs i1) x1 x3) (fun x4 => ?_)
  refine X.lk ?_
  refine X.lk ?_
  refine X.st ?_
  refine X.nil ?_
  refine ES.seq ?_
  refine VS.weak (s' := (⟨[(1, .w (.c (.v (.int .i64 i1)))), (2, .w (.c (.ptr 0 0 0))), (4, .w (.c (.ptr 1 0 0))), (5, .w (.c (.ptr 2 0 0))), (6, .w (.c (.ptr 3 0 0)))], [some (.bx 27 ((row_AProgram p1).map .v)), some (.bx 89 [.v (.tree (([] : List (List Int)).map (sR iRow))), .v (.tree (([] : List Int).map iRow)), .v (.tree (([] : List Bool).map oRow)), .v (.tree (([] : List (List Int)).map (sR iRow))), .v (.int .i64 0), .v (.int .i64 0), .v (.tree (([] : List Int).map iRow))]), some (.bx 35 ((row_AFunc (atD p1.Funcs i1)).map .v)), some (.bx 89 [.v (.tree (x1.Out.map (sR iRow))), .v (.tree (x3.map iRow)), .v (.tree (x4.map oRow)), .v (.tree (([] : List (List Int)).map (sR iRow))), .v (.int .i64 0), .v (.int .i64 0), .v (.tree (([] : List Int).map iRow))])]⟩ : St)) (St.le_sub ⟨rfl, rfl, rfl, rfl, rfl, trivial⟩ ⟨rfl, rfl, rfl, rfl, trivial⟩ rfl) ?_
  refine VS.seq ?_
  refine VS.region ?_
  refine X.lk ?_
  refine X.lk ?_
  refine X.lk ?_
  refine X.call true [] [] (r21_Apply_ok (atD p1.Funcs i1) (⟨x3, x4⟩ : ARename)) (fun x5 => ?_)
  refine X.lk ?_
  refine X.lk ?_
  refine X.lk ?_
  refine X.alloc 4 ?_
  refine X.st ?_
  refine X.lk ?_
  refine X.nil ?_
  refine ES.seq ?_
  refine VS.seq ?_
  refine VS.region ?_
  refine X.lk ?_
  refine X.call true [] [] (r16_Solve_ok x5.1) (fun x6 => ?_)
  refine X.lk ?_
  refine X.st ?_
  refine X.nil ?_
  refine ES.seq ?_
  refine VS.seq ?_
  refine VS.region ?_
  refine X.lk ?_
  refine X.lk ?_
  refine X.lk ?_
  refine X.call true [] [] (r18_Strict_ok x5.1 x6) (fun x7 => ?_)
  refine X.lk ?_
  refine X.lk ?_
  refine X.lk ?_
  refine X.lk ?_
  refine X.lk ?_
  refine X.nil ?_
  refine ES.seq ?_
  refine VS.seq ?_
  refine VS.drawn ?_
  refine X.lk ?_
  refine X.lk ?_
  refine X.lk ?_
  refine X.lk ?_
  refine X.lk ?_
  refine X.call true [] [] (r24_Args_ok p1 i1) (fun x8 => ?_)
  refine X.call true [] [] (r23_Assign_ok x5.1.Slots x7.1 x8) (fun x9 => ?_)
  refine X.lk ?_
  refine X.lk ?_
  refine X.lk ?_
  refine X.lk ?_
  refine X.lk ?_
  refine X.nilD ?_ (by kernel_rfl)
  refine ES.seq ?_
  refine VS.seq ?_
  refine VS.weak (s' := (⟨[(1, .w (.c (.v (.int .i64 i1)))), (2, .w (.c (.ptr 0 0 0))), (4, .w (.c (.ptr 1 0 0))), (6, .w (.c (.ptr 3 0 0))), (9, .w (.c (.ptr 4 0 0))), (13, .w (.c (.v (.tree (x9.1.map iRow))))), (14, .w (.c (.v (.int .i64 x9.2))))], [some (.bx 27 ((row_AProgram p1).map .v)), some (.bx 89 [.v (.tree (([] : List (List Int)).map (sR iRow))), .v (.tree (([] : List Int).map iRow)), .v (.tree (([] : List Bool).map oRow)), .v (.tree (([] : List (List Int)).map (sR iRow))), .v (.int .i64 0), .v (.int .i64 0), .v (.tree (([] : List Int).map iRow))]), some (.bx 35 ((row_AFunc (atD p1.Funcs i1)).map .v)), some (.bx 89 [.v (.tree (x1.Out.map (sR iRow))), .v (.tree (x3.map iRow)), .v (.tree (x4.map oRow)), .v (.tree (x6.Out.map (sR iRow))), .v (.int .i64 0), .v (.int .i64 0), .v (.tree (([] : List Int).map iRow))]), some (.bx 35 ((row_AFunc x5.1).map .v))]⟩ : St)) (St.le_sub ⟨rfl, rfl, rfl, rfl, rfl, rfl, rfl, trivial⟩ ⟨rfl, rfl, rfl, rfl, rfl, trivial⟩ rfl) ?_
  refine VS.seq ?_
  refine VS.region ?_
  refine X.lk ?_
  refine X.lk ?_
  refine X.nil ?_
  refine ES.seq ?_
  refine VS.cond (fun h2 => ?_) (fun h2 => ?_)
  · refine VS.seq ?_
    refine VS.region ?_
    refine X.lk ?_
    refine X.st ?_
    refine X.nil ?_
    refine ES.seq ?_
    refine VS.ret ?_
    refine ES.thnR ?_
    refine ES.ret ?_
    exact Ret.clo [.agg ((row_AProposal (⟨x1, (⟨x3, x4⟩ : ARename), x6, (⟨0, 0, ([] : List Int)⟩ : ALayout)⟩ : AProposal)).map .v)] ⟨⟨_, _, _, _, _, _, rfl, rfl, fits rfl, rfl⟩, trivial⟩ trivial
  · refine VS.skip ?_
    refine ES.seq ?_
    refine VS.seq ?_
    refine VS.drawn ?_
    refine X.lk ?_
    refine X.lk ?_
    refine X.lk ?_
    refine X.call true [] [] (r31_Only_ok p1 i1 x5.1) (fun x10 => ?_)
    refine X.lk ?_
    refine X.lk ?_
    refine X.call true [] [] (r05_Align_ok p1) (fun x11 => ?_)
    refine X.lk ?_
    refine X.call true [] [] (r24_Finish_ok x10 i1 x11 x9.1) (fun x12 => ?_)
    refine X.lk ?_
    refine X.lk ?_
    refine X.lk ?_
    refine X.lk ?_
    refine X.st ?_
    refine X.nilD ?_ (by kernel_rfl)
    refine ES.seq ?_
    refine VS.seq ?_
    refine VS.region ?_
    refine X.lk ?_
    refine X.st ?_
    refine X.nil ?_
    refine ES.seq ?_
    refine VS.ret ?_
    refine ES.ret ?_
    exact Ret.clo [.agg ((row_AProposal (⟨x1, (⟨x3, x4⟩ : ARename), x6, x12.1⟩ : AProposal)).map .v)] ⟨⟨_, _, _, _, _, _, rfl, rfl, fits rfl, rfl⟩, trivial⟩ trivial
set_option maxHeartbeats 4000000 in
theorem draw_Int_ok (c1 : DCodes) : ∀ r : Int × DCodes, draw_Int c1 r → FCalls Try.prog 55 [(105, row_DCodes c1)] [.c (.ptr 0 0 0)] (.w (.c (.v (.int .i64 r.1)))) [] [(105, row_DCodes r.2)] := by
  refine fnS 25 ?_
  unfold draw_Int
  refine VS.seq ?_
  refine VS.region ?_
  refine X.lk ?_
  refine X.nil ?_
  refine ES.seq ?_
  refine VS.seq ?_
  refine VS.region ?_
  refine X.lk ?_
  refine X.call true [] [0] (draw_Next_ok c1 12) (fun x1 => ?_) (hn := ⟨rfl, trivial⟩)
  refine X.lk ?_
  refine X.nil ?_
  refine ES.seq ?_
  refine VS.seq ?_
  refine VS.seq ?_
  refine VS.region ?_
  refine X.lk ?_
  refine X.lk ?_
  refine X.nil ?_
  refine ES.seq ?_
  refine VS.cond (fun h1 => ?_) (fun h1 => ?_)
  · refine VS.seq ?_
    refine VS.region ?_
    refine X.bs 1 ([9223372036854775807, (-9223372036854775808), 2147483648, 2147483647, (-1), 16777216, 33554432, 1048577, 512, 80] : List Int) iRow ?_
    refine X.lk ?_
    refine X.nil ?_
    refine ES.seq ?_
    refine VS.seq ?_
    refine VS.region ?_
    refine X.lk ?_
    refine X.lk ?_
    refine X.lk ?_
    refine X.lenM (l := ([9223372036854775807, (-9223372036854775808), 2147483648, 2147483647, (-1), 16777216, 33554432, 1048577, 512, 80] : List Int)) ?_
    refine X.call true [] [0] (draw_Next_ok x1.2 (([9223372036854775807, (-9223372036854775808), 2147483648, 2147483647, (-1), 16777216, 33554432, 1048577, 512, 80] : List Int).length : Int)) (fun x2 => ?_) (hn := ⟨rfl, trivial⟩)
    refine X.idxM (l := ([9223372036854775807, (-9223372036854775808), 2147483648, 2147483647, (-1), 16777216, 33554432, 1048577, 512, 80] : List Int)) (i := x2.1) (fun h2 => ?_)
    refine X.ld (i := x2.1) h2 ?_
    refine X.lk ?_
    refine X.nil ?_
    refine ES.seq ?_
    refine VS.ret ?_
    refine ES.thnR ?_
    refine ES.ret ?_
    exact Ret.clo [.c (.v (.int .i64 (atD ([9223372036854775807, (-9223372036854775808), 2147483648, 2147483647, (-1), 16777216, 33554432, 1048577, 512, 80] : List Int) x2.1)))] ⟨rfl, trivial⟩ ⟨rfl, trivial⟩
  · refine VS.skip ?_
    refine ES.seq ?_
    refine VS.seq ?_
    refine VS.region ?_
    refine X.lk ?_
    refine X.call true [] [0] (draw_Next_ok x1.2 256) (fun x3 => ?_) (hn := ⟨rfl, trivial⟩)
    refine X.lk ?_
    refine X.call true [] [0] (draw_Next_ok x3.2 7) (fun x4 => ?_) (hn := ⟨rfl, trivial⟩)
    refine X.shr (fun h3 => ?_) (by first | exact .inl rfl | exact .inr rfl)
    refine X.lk ?_
    refine X.ck fun h4 => ?_
    refine X.ck fun h5 => ?_
    refine X.lk ?_
    refine X.nil ?_
    refine ES.seq ?_
    refine VS.ret ?_
    refine ES.ret ?_
    exact Ret.clo [.c (.v (.int .i64 ((x3.1 / 2 ^ x4.1.toNat) - (x1.1 / 9))))] ⟨rfl, trivial⟩ ⟨rfl, trivial⟩
end Go.Proofs.Ytbppgdffochdmaa.Q
