/- Walks of functions: the code does what the lifted text says (written by a program). -/
import Derived.Test.YtbppgdffochdmaaGw7
set_option linter.unusedVariables false
set_option linter.unusedSimpArgs false
set_option maxRecDepth 8000
namespace Go.Proofs.Ytbppgdffochdmaa.Q
open Go.RowKit
set_option maxHeartbeats 4000000 in
theorem pack_Args_ok (p1 : AProgram) (i1 : Int) : ∀ r : Int, pack_Args p1 i1 r → FCalls Try.prog 30 [] [.agg ((row_AProgram p1).map .v), .c (.v (.int .i64 i1))] (.w (.c (.v (.int .i64 r)))) [] [] := by
  refine fnS 42 ?_
  unfold pack_Args
  refine VS.seq ?_
  refine VS.region ?_
  refine X.box 0 ?_
  refine X.lk ?_
  refine X.nil ?_
  refine ES.seq ?_
  refine VS.seq ?_
  refine VS.region ?_
  refine X.lk ?_
  refine X.nil ?_
  refine ES.seq ?_
  refine VS.seq ?_
  refine VS.seq ?_
  refine VS.region ?_
  refine X.lk ?_
  refine X.lk ?_
  refine X.lk ?_
  refine X.idxT (fun h1 => ?_)
  refine X.lk ?_
  refine X.lk ?_
  refine X.lenT ?_
  refine X.lk ?_
  refine X.nil ?_
  refine ES.seq ?_
  refine VS.block ?_
  refine VS.loop (fun jj : Int × Int => (⟨[(2, .w (.c (.ptr 0 0 0))), (5, .w (.c (.v (.int .i64 jj.1)))), (13, .w (.c (.v (.tree (((atD p1.Funcs i1).Code).map row_AInstr))))), (14, .w (.c (.v (.int .i64 (((atD p1.Funcs i1).Code).length : Int))))), (15, .w (.c (.v (.int .i64 jj.2))))], [some (.bx 27 ((row_AProgram p1).map .v))]⟩ : St)) (j0 := (0, 0)) (St.le_sub ⟨rfl, rfl, rfl, rfl, rfl, trivial⟩ ⟨rfl, trivial⟩ rfl) ?_
  rintro n2 again1 ih_again1 ⟨n1, x1⟩
  refine VS.seq ?_
  refine VS.region ?_
  refine X.lk ?_
  refine X.nil ?_
  refine ES.seq ?_
  refine VS.seq ?_
  refine VS.cond (fun h2 => ?_) (fun h2 => ?_)
  · refine VS.skip ?_
    refine ES.seq ?_
    refine VS.seq ?_
    refine VS.block ?_
    refine VS.seq ?_
    refine VS.region ?_
    refine X.idxT (fun h3 => ?_)
    refine X.lk ?_
    refine X.alloc 1 ?_
    refine X.st ?_
    refine X.nil ?_
    refine ES.seq ?_
    refine VS.seq ?_
    refine VS.region ?_
    refine X.lk ?_
    refine X.lk ?_
    refine X.nil ?_
    refine ES.seq ?_
    refine VS.block ?_
    refine VS.seq ?_
    refine VS.region ?_
    refine X.lk ?_
    refine X.lk ?_
    refine X.nil ?_
    refine ES.seq ?_
    refine VS.cond (fun h4 => ?_) (fun h4 => ?_)
    · refine VS.region ?_
      refine X.lk ?_
      refine X.lk ?_
      refine X.lk ?_
      refine X.ck fun h5 => ?_
      refine X.max ?_
      refine X.lk ?_
      refine X.nil ?_
      refine ES.blkN ?_
      refine ES.blkN ?_
      refine ES.seq ?_
      refine VS.region ?_
      refine X.ck fun h6 => ?_
      refine X.lk ?_
      refine X.nil ?_
      exact ES.go ih_again1 ((max n1 (((atD ((atD p1.Funcs i1).Code) x1).A) + 1)), (x1 + 1)) (St.le_sub ⟨rfl, rfl, rfl, rfl, rfl, trivial⟩ ⟨rfl, trivial⟩ rfl)
    · refine VS.seq ?_
      refine VS.region ?_
      refine X.lk ?_
      refine X.lk ?_
      refine X.nil ?_
      refine ES.seq ?_
      refine VS.cond (fun h7 => ?_) (fun h7 => ?_)
      · refine VS.region ?_
        refine X.lk ?_
        refine X.lk ?_
        refine X.lk ?_
        refine X.lk ?_
        refine X.lk ?_
        refine X.idxT (fun h8 => ?_)
        refine X.lk ?_
        refine X.lk ?_
        refine X.max ?_
        refine X.lk ?_
        refine X.nil ?_
        refine ES.blkN ?_
        refine ES.blkN ?_
        refine ES.seq ?_
        refine VS.region ?_
        refine X.ck fun h9 => ?_
        refine X.lk ?_
        refine X.nil ?_
        exact ES.go ih_again1 ((max n1 ((atD p1.Funcs ((atD ((atD p1.Funcs i1).Code) x1).A)).Params)), (x1 + 1)) (St.le_sub ⟨rfl, rfl, rfl, rfl, rfl, trivial⟩ ⟨rfl, trivial⟩ rfl)
      · refine VS.skip ?_
        refine ES.blkN ?_
        refine ES.blkN ?_
        refine ES.seq ?_
        refine VS.region ?_
        refine X.ck fun h10 => ?_
        refine X.lk ?_
        refine X.nil ?_
        exact ES.go ih_again1 (n1, (x1 + 1)) (St.le_sub ⟨rfl, rfl, rfl, rfl, rfl, trivial⟩ ⟨rfl, trivial⟩ rfl)
  · refine VS.exit ?_
    refine ES.thnE ?_
    refine ES.thnE ?_
    refine ES.blkE ?_
    refine ES.seq ?_
    refine VS.seq ?_
    refine VS.region ?_
    refine X.lk ?_
    refine X.ck fun h11 => ?_
    refine X.lk ?_
    refine X.nil ?_
    refine ES.seq ?_
    refine VS.ret ?_
    refine ES.ret ?_
    exact Ret.clo [.c (.v (.int .i64 ((16 : Int) * n1)))] ⟨rfl, trivial⟩ trivial
set_option maxHeartbeats 4000000 in
theorem law24_awake_ok  : ∀ r : Bool, law24_awake r → FCalls Try.prog 25 [] [] (.w (.c (.v (.bool r)))) [] [] := by
  refine fnS 9 ?_
  unfold law24_awake
  refine VS.seq ?_
  refine VS.region ?_
  refine X.lk ?_
  refine X.nil ?_
  refine ES.seq ?_
  refine VS.seq ?_
  refine VS.region ?_
  refine X.build ?_
  refine X.build ?_
  refine X.bsT 0 ([(⟨18, 0, 0, 0, 0⟩ : AInstr), (⟨23, 0, 0, 0, 0⟩ : AInstr)] : List AInstr) row_AInstr ?_
  refine X.build ?_
  refine X.bs 1 ([(⟨0, ([] : List ASlot), ([(⟨18, 0, 0, 0, 0⟩ : AInstr), (⟨23, 0, 0, 0, 0⟩ : AInstr)] : List AInstr)⟩ : AFunc)] : List AFunc) row_AFunc ?_
  refine X.build ?_
  refine X.call false [(1, .sl 35 3 false (([(⟨0, ([] : List ASlot), ([(⟨18, 0, 0, 0, 0⟩ : AInstr), (⟨23, 0, 0, 0, 0⟩ : AInstr)] : List AInstr)⟩ : AFunc)] : List AFunc).map row_AFunc))] [] (pack_Args_ok (⟨([(⟨0, ([] : List ASlot), ([(⟨18, 0, 0, 0, 0⟩ : AInstr), (⟨23, 0, 0, 0, 0⟩ : AInstr)] : List AInstr)⟩ : AFunc)] : List AFunc)⟩ : AProgram) 0) (fun x1 => ?_) (hn := ⟨rfl, trivial⟩) (hsc := .inr ⟨rfl, fun _ => rfl⟩)
  refine X.lk ?_
  refine X.lk ?_
  refine X.nil ?_
  refine ES.seq ?_
  refine VS.ret ?_
  refine ES.ret ?_
  exact Ret.clo [.c (.v (.bool (decide (x1 = 16))))] ⟨rfl, trivial⟩ trivial
set_option maxHeartbeats 4000000 in
theorem law24_scene_ok (codes1 : List Int) : ∀ r : AProgram × Int × Int × DCodes, law24_scene codes1 r → FCalls Try.prog 26 [] [.c (.v (.tree (codes1.map bRow)))] (.tup [.agg ((row_AProgram r.1).map .v), .c (.v (.int .i64 r.2.1)), .c (.v (.int .i64 r.2.2.1)), .c (.ptr 0 0 0)]) [.bx 105 ((row_DCodes r.2.2.2).map .v)] [] := by
  refine fnS 24 ?_
  unfold law24_scene
  refine VS.seq ?_
  refine VS.region ?_
  refine X.alloc 0 ?_
  refine X.lk ?_
  refine X.lk ?_
  refine X.lk ?_
  refine X.nil ?_
  refine ES.seq ?_
  refine VS.seq ?_
  refine VS.region ?_
  refine X.lk ?_
  refine X.callE 1 [] (draw_New_ok codes1 250) (fun x1 => ?_)
  refine X.lk ?_
  refine X.nil ?_
  refine ES.seq ?_
  refine VS.seq ?_
  refine VS.region ?_
  refine X.lk ?_
  refine X.call true [] [1] (draw_Program_ok x1 3 12) (fun x2 => ?_) (hn := ⟨rfl, trivial⟩)
  refine X.alloc 2 ?_
  refine X.st ?_
  refine X.nil ?_
  refine ES.seq ?_
  refine VS.seq ?_
  refine VS.drawn ?_
  refine X.lk ?_
  refine X.lk ?_
  refine X.lk ?_
  refine X.lk ?_
  refine X.lenT ?_
  refine X.call true [] [1] (draw_Next_ok x2.2 (x2.1.Funcs.length : Int)) (fun x3 => ?_) (hn := ⟨rfl, trivial⟩)
  refine X.lk ?_
  refine X.call true [] [] (r05_Align_ok x2.1) (fun x4 => ?_)
  refine X.lk ?_
  refine X.call true [] [1] (draw_Next_ok x3.2 3) (fun x5 => ?_) (hn := ⟨rfl, trivial⟩)
  refine X.shl fun h1 => ?_
  refine X.lk ?_
  refine X.st ?_
  refine X.lk ?_
  refine X.lk ?_
  refine X.lk ?_
  refine X.nilD ?_ (by kernel_rfl)
  refine ES.seq ?_
  refine VS.ret ?_
  refine ES.ret ?_
  exact Ret.cloE 1 [.agg ((row_AProgram x2.1).map .v), .c (.v (.int .i64 x3.1)), .c (.v (.int .i64 (x4 * 2 ^ x5.1.toNat))), .c (.ptr 1 0 0)] ⟨⟨_, _, _, _, _, _, rfl, rfl, fits rfl, rfl⟩, rfl, rfl, rfl, trivial⟩ trivial
set_option maxHeartbeats 4000000 in
theorem r24_Baseline_ok (p1 : AProgram) (i1 : Int) (align1 : Int) : ∀ r : ALayout × Int, r24_Baseline p1 i1 align1 r → FCalls Try.prog 28 [] [.agg ((row_AProgram p1).map .v), .c (.v (.int .i64 i1)), .c (.v (.int .i64 align1))] (.tup [.agg ((row_ALayout r.1).map .v), .c (.v (.int .i64 r.2))]) [] [] := by
  refine fnS 89 ?_
  unfold r24_Baseline
  refine VS.seq ?_
  refine VS.region ?_
  refine X.box 0 ?_
  refine X.alloc 1 ?_
  refine X.lk ?_
  refine X.nil ?_
  refine ES.seq ?_
  refine VS.seq ?_
  refine VS.region ?_
  refine X.lk ?_
  refine X.lk ?_
  refine X.call true [] [] (r24_Args_ok p1 i1) (fun x1 => ?_)
  refine X.build ?_
  refine X.alloc 2 ?_
  refine X.st ?_
  refine X.nil ?_
  refine ES.seq ?_
  refine VS.seq ?_
  refine VS.region ?_
  refine X.lk ?_
  refine X.lk ?_
  refine X.lk ?_
  refine X.nil ?_
  refine ES.seq ?_
  refine VS.seq ?_
  refine VS.region ?_
  refine X.lk ?_
  refine X.lk ?_
  refine X.lk ?_
  refine X.idxT (fun h1 => ?_)
  refine X.lk ?_
  refine X.lk ?_
  refine X.lk ?_
  refine X.nil ?_
  refine ES.seq ?_
  refine VS.seq ?_
  refine VS.seq ?_
  refine VS.region ?_
  refine X.lk ?_
  refine X.nil ?_
  refine ES.seq ?_
  refine VS.block ?_
  refine VS.loop (fun jj : Int × Int × List Int => (⟨[(2, .w (.c (.v (.int .i64 align1)))), (6, .w (.c (.ptr 0 0 0))), (8, .w (.c (.ptr 1 0 0))), (9, .w (.c (.v (.int .i64 jj.1)))), (10, .w (.c (.v (.tree (((atD p1.Funcs i1).Slots).map row_ASlot))))), (11, .w (.c (.v (.int .i64 jj.2.1))))], [some (.bx 48 [.v (.int .i64 0), .v (.int .i64 0), .v (.tree (([] : List Int).map iRow))]), some (.bx 48 [.v (.int .i64 x1), .v (.int .i64 0), .v (.tree (jj.2.2.map iRow))])]⟩ : St)) (j0 := (x1, 0, ([] : List Int))) ((St.le_drop _ 0 (Nat.le_of_ble_eq_true rfl)).trans ((St.le_mvB _ 1 0 rfl rfl rfl rfl).trans ((St.le_mvB _ 2 1 rfl rfl rfl rfl).trans (St.le_sub ⟨rfl, rfl, rfl, rfl, rfl, rfl, trivial⟩ ⟨rfl, rfl, trivial⟩ rfl)))) ?_
  rintro n1 again1 ih_again1 ⟨end1, k1, Off1⟩
  refine VS.seq ?_
  refine VS.seq ?_
  refine VS.region ?_
  refine X.lk ?_
  refine X.lk ?_
  refine X.lenT ?_
  refine X.lk ?_
  refine X.nil ?_
  refine ES.seq ?_
  refine VS.cond (fun h2 => ?_) (fun h2 => ?_)
  · refine VS.skip ?_
    refine ES.seq ?_
    refine VS.seq ?_
    refine VS.block ?_
    refine VS.seq ?_
    refine VS.region ?_
    refine X.lk ?_
    refine X.lk ?_
    refine X.lk ?_
    refine X.idxT (fun h3 => ?_)
    refine X.lk ?_
    refine X.lk ?_
    refine X.call true [] [] (r03_Up_ok end1 ((atD ((atD p1.Funcs i1).Slots) k1).Align)) (fun x2 => ?_)
    refine X.lk ?_
    refine X.lk ?_
    refine X.lk ?_
    refine X.lk ?_
    refine X.lk ?_
    refine X.nil ?_
    refine ES.seq ?_
    refine VS.seq ?_
    refine VS.seq ?_
    refine VS.region ?_
    refine X.lk ?_
    refine X.lk ?_
    refine X.lk ?_
    refine X.bif (b := (!decide (x2.2 = 0))) (fun h4 => ?_) (fun h4 => ?_)
    · refine X.gN h4 ?_
      refine X.gN h4 ?_
      refine X.gN h4 ?_
      refine X.gN h4 ?_
      refine X.gN h4 ?_
      refine X.gN h4 ?_
      refine X.gN h4 ?_
      refine X.gN h4 ?_
      refine X.pT h4 ?_
      refine X.nil ?_
      refine ES.seq ?_
      refine VS.condT rfl ?_
      refine VS.seq ?_
      refine VS.region ?_
      refine X.build ?_
      refine X.st ?_
      refine X.lk ?_
      refine X.nil ?_
      refine ES.seq ?_
      refine VS.ret ?_
      refine ES.thnR ?_
      refine ES.blkR ?_
      refine ES.thnR ?_
      refine ES.thnR ?_
      refine ES.blkR ?_
      refine ES.thnR ?_
      refine ES.ret ?_
      exact Ret.clo [.agg ((row_ALayout (⟨0, 0, ([] : List Int)⟩ : ALayout)).map .v), .c (.v (.int .i64 9))] ⟨⟨_, _, _, _, _, _, rfl, rfl, fits rfl, rfl⟩, rfl, trivial⟩ trivial
    · refine X.gY h4 ?_
      refine X.lk ?_
      refine X.gY h4 ?_
      refine X.lk ?_
      refine X.gY h4 ?_
      refine X.lk ?_
      refine X.gY h4 ?_
      refine X.idxT (fun h5 => ?_)
      refine X.gY h4 ?_
      refine X.lk ?_
      refine X.gY h4 ?_
      refine X.lk ?_
      refine X.gY h4 ?_
      refine X.ck fun h6 => ?_
      refine X.gY h4 ?_
      refine X.lk ?_
      refine X.pF h4 ?_
      refine X.nil ?_
      refine ES.seq ?_
      refine VS.cond (fun h7 => ?_) (fun h7 => ?_)
      · refine VS.seq ?_
        refine VS.region ?_
        refine X.build ?_
        refine X.st ?_
        refine X.lk ?_
        refine X.nil ?_
        refine ES.seq ?_
        refine VS.ret ?_
        refine ES.thnR ?_
        refine ES.blkR ?_
        refine ES.thnR ?_
        refine ES.thnR ?_
        refine ES.blkR ?_
        refine ES.thnR ?_
        refine ES.ret ?_
        exact Ret.clo [.agg ((row_ALayout (⟨0, 0, ([] : List Int)⟩ : ALayout)).map .v), .c (.v (.int .i64 9))] ⟨⟨_, _, _, _, _, _, rfl, rfl, fits rfl, rfl⟩, rfl, trivial⟩ trivial
      · refine VS.skip ?_
        refine ES.seq ?_
        refine VS.seq ?_
        refine VS.region ?_
        refine X.lk ?_
        refine X.lk ?_
        refine X.appNT 2 (l' := Off1) (fun h8 => ?_)
        refine X.lk ?_
        refine X.bs 3 ([x2.1] : List Int) iRow ?_
        refine X.appMM 4 (l := Off1) (l' := ([x2.1] : List Int)) (fun h9 => ?_)
        refine X.lk ?_
        refine X.nil ?_
        refine ES.seq ?_
        refine VS.seq ?_
        refine VS.region ?_
        refine X.lk ?_
        refine X.lk ?_
        refine X.st ?_
        refine X.nil ?_
        refine ES.seq ?_
        refine VS.region ?_
        refine X.lk ?_
        refine X.lk ?_
        refine X.lk ?_
        refine X.idxT (fun h10 => ?_)
        refine X.lk ?_
        refine X.lk ?_
        refine X.ck fun h11 => ?_
        refine X.lk ?_
        refine X.nil ?_
        refine ES.blkN ?_
        refine ES.seq ?_
        refine VS.region ?_
        refine X.lk ?_
        refine X.ck fun h12 => ?_
        refine X.lk ?_
        refine X.nil ?_
        exact ES.go ih_again1 ((x2.1 + ((atD ((atD p1.Funcs i1).Slots) k1).Size)), (k1 + 1), (Off1 ++ ([x2.1] : List Int))) ((St.le_tcell _ 1 2 4 rfl rfl rfl rfl).trans (St.le_sub ⟨rfl, rfl, rfl, rfl, rfl, rfl, trivial⟩ ⟨rfl, rfl, trivial⟩ rfl))
  · refine VS.exit ?_
    refine ES.thnE ?_
    refine ES.thnE ?_
    refine ES.blkE ?_
    refine ES.seq ?_
    refine VS.seq ?_
    refine VS.region ?_
    refine X.lk ?_
    refine X.lk ?_
    refine X.call true [] [] (r03_Up_ok end1 align1) (fun x3 => ?_)
    refine X.lk ?_
    refine X.lk ?_
    refine X.lk ?_
    refine X.lk ?_
    refine X.lk ?_
    refine X.nil ?_
    refine ES.seq ?_
    refine VS.seq ?_
    refine VS.seq ?_
    refine VS.region ?_
    refine X.lk ?_
    refine X.lk ?_
    refine X.lk ?_
    refine X.bif (b := (!decide (x3.2 = 0))) (fun h13 => ?_) (fun h13 => ?_)
    · refine X.gN h13 ?_
      refine X.gN h13 ?_
      refine X.pT h13 ?_
      refine X.nil ?_
      refine ES.seq ?_
      refine VS.condT rfl ?_
      refine VS.seq ?_
      refine VS.region ?_
      refine X.build ?_
      refine X.st ?_
      refine X.lk ?_
      refine X.nil ?_
      refine ES.seq ?_
      refine VS.ret ?_
      refine ES.thnR ?_
      refine ES.ret ?_
      exact Ret.clo [.agg ((row_ALayout (⟨0, 0, ([] : List Int)⟩ : ALayout)).map .v), .c (.v (.int .i64 9))] ⟨⟨_, _, _, _, _, _, rfl, rfl, fits rfl, rfl⟩, rfl, trivial⟩ trivial
    · refine X.gY h13 ?_
      refine X.lk ?_
      refine X.gY h13 ?_
      refine X.lk ?_
      refine X.pF h13 ?_
      refine X.nil ?_
      refine ES.seq ?_
      refine VS.cond (fun h14 => ?_) (fun h14 => ?_)
      · refine VS.seq ?_
        refine VS.region ?_
        refine X.build ?_
        refine X.st ?_
        refine X.lk ?_
        refine X.nil ?_
        refine ES.seq ?_
        refine VS.ret ?_
        refine ES.thnR ?_
        refine ES.ret ?_
        exact Ret.clo [.agg ((row_ALayout (⟨0, 0, ([] : List Int)⟩ : ALayout)).map .v), .c (.v (.int .i64 9))] ⟨⟨_, _, _, _, _, _, rfl, rfl, fits rfl, rfl⟩, rfl, trivial⟩ trivial
      · refine VS.skip ?_
        refine ES.seq ?_
        refine VS.seq ?_
        refine VS.region ?_
        refine X.lk ?_
        refine X.lk ?_
        refine X.st ?_
        refine X.nil ?_
        refine ES.seq ?_
        refine VS.seq ?_
        refine VS.region ?_
        refine X.lk ?_
        refine X.st ?_
        refine X.lk ?_
        refine X.nil ?_
        refine ES.seq ?_
        refine VS.ret ?_
        refine ES.ret ?_
        exact Ret.clo [.agg ((row_ALayout (⟨x1, x3.1, Off1⟩ : ALayout)).map .v), .c (.v (.int .i64 0))] ⟨⟨_, _, _, _, _, _, rfl, rfl, fits rfl, rfl⟩, rfl, trivial⟩ trivial
set_option maxHeartbeats 4000000 in
theorem draw_Layout_ok (c1 : DCodes) (p1 : AProgram) (i1 : Int) (align1 : Int) : ∀ r : ALayout × DCodes, draw_Layout c1 p1 i1 align1 r → FCalls Try.prog 40 [(105, row_DCodes c1)] [.c (.ptr 0 0 0), .agg ((row_AProgram p1).map .v), .c (.v (.int .i64 i1)), .c (.v (.int .i64 align1))] (.w (.agg ((row_ALayout r.1).map .v))) [] [(105, row_DCodes r.2)] := by
  refine fnS 147 ?_
  unfold draw_Layout
  refine VS.seq ?_
  refine VS.region ?_
  refine X.box 1 ?_
  refine X.alloc 2 ?_
  refine X.nil ?_
  refine ES.seq ?_
  refine VS.seq ?_
  refine VS.region ?_
  refine X.lk ?_
  refine X.lk ?_
  refine X.lk ?_
  refine X.call true [] [] (r24_Baseline_ok p1 i1 align1) (fun x1 => ?_)
  refine X.lk ?_
  refine X.lk ?_
  refine X.lk ?_
  refine X.alloc 3 ?_
  refine X.st ?_
  refine X.lk ?_
  refine X.nil ?_
  refine ES.seq ?_
  refine VS.join (fun jj : DCodes × ALayout => (⟨[(0, .w (.c (.ptr 0 0 0))), (8, .w (.c (.ptr 1 0 0))), (9, .w (.c (.ptr 2 0 0)))], [some (.bx 105 ((row_DCodes jj.1).map .v)), some (.bx 48 [.v (.int .i64 0), .v (.int .i64 0), .v (.tree (([] : List Int).map iRow))]), some (.bx 48 ((row_ALayout jj.2).map .v))]⟩ : St)) ?_ ?_
  · rintro ⟨c2, y1⟩
    refine VS.seq ?_
    refine VS.region ?_
    refine X.lk ?_
    refine X.lk ?_
    refine X.appNT 3 (l' := y1.Off) (fun h1 => ?_)
    refine X.lk ?_
    refine X.st ?_
    refine X.nil ?_
    refine ES.seq ?_
    refine VS.seq ?_
    refine VS.seq ?_
    refine VS.region ?_
    refine X.lk ?_
    refine X.call true [] [0] (draw_Next_ok c2 4) (fun x2 => ?_) (hn := ⟨rfl, trivial⟩)
    refine X.lk ?_
    refine X.nil ?_
    refine ES.seq ?_
    refine VS.block ?_
    refine VS.loop (fun jj : Int × DCodes × Int × Int × List Int => (⟨[(0, .w (.c (.ptr 0 0 0))), (8, .w (.c (.ptr 1 0 0))), (9, .w (.c (.ptr 2 0 0))), (12, .w (.c (.v (.int .i64 jj.1))))], [some (.bx 105 ((row_DCodes jj.2.1).map .v)), some (.bx 48 [.v (.int .i64 0), .v (.int .i64 0), .v (.tree (([] : List Int).map iRow))]), some (.bx 48 [.v (.int .i64 jj.2.2.1), .v (.int .i64 jj.2.2.2.1), .mref 3]), some (.sl 3 1 false (jj.2.2.2.2.map iRow))]⟩ : St)) (j0 := (x2.1, x2.2, y1.Args, y1.Size, y1.Off)) (St.le_sub ⟨rfl, rfl, rfl, rfl, trivial⟩ ⟨rfl, rfl, rfl, rfl, trivial⟩ rfl) ?_
    rintro n2 again1 ih_again1 ⟨n1, c3, Args1, Size1, own1⟩
    refine VS.seq ?_
    refine VS.seq ?_
    refine VS.region ?_
    refine X.lk ?_
    refine X.lk ?_
    refine X.nil ?_
    refine ES.seq ?_
    refine VS.cond (fun h2 => ?_) (fun h2 => ?_)
    · refine VS.skip ?_
      refine ES.seq ?_
      refine VS.join (fun jj : DCodes × Int × Int × List Int => (⟨[(0, .w (.c (.ptr 0 0 0))), (8, .w (.c (.ptr 1 0 0))), (9, .w (.c (.ptr 2 0 0))), (12, .w (.c (.v (.int .i64 n1))))], [some (.bx 105 ((row_DCodes jj.1).map .v)), some (.bx 48 [.v (.int .i64 0), .v (.int .i64 0), .v (.tree (([] : List Int).map iRow))]), some (.bx 48 [.v (.int .i64 jj.2.1), .v (.int .i64 jj.2.2.1), .mref 3]), some (.sl 3 1 false (jj.2.2.2.map iRow))]⟩ : St)) ?_ ?_
      · rintro ⟨c4, Args2, Size2, own2⟩
        refine VS.region ?_
        refine X.lk ?_
        refine X.ck fun h3 => ?_
        refine X.lk ?_
        refine X.nil ?_
        exact ES.go ih_again1 ((n1 - 1), c4, Args2, Size2, own2) (St.le_sub ⟨rfl, rfl, rfl, rfl, trivial⟩ ⟨rfl, rfl, rfl, rfl, trivial⟩ rfl)
      · intro k2 ih_k2
        refine VS.block ?_
        refine VS.seq ?_
        refine VS.region ?_
        refine X.lk ?_
        refine X.lk ?_
        refine X.lk ?_
        refine X.lenM (l := own1) ?_
        refine X.max ?_
        refine X.call true [] [0] (draw_Next_ok c3 (max 1 (own1.length : Int))) (fun x3 => ?_) (hn := ⟨rfl, trivial⟩)
        refine X.lk ?_
        refine X.nil ?_
        refine ES.seq ?_
        refine VS.seq ?_
        refine VS.region ?_
        refine X.lk ?_
        refine X.call true [] [0] (draw_Next_ok x3.2 8) (fun x4 => ?_) (hn := ⟨rfl, trivial⟩)
        refine X.nil ?_
        refine ES.seq ?_
        refine VS.block ?_
        refine VS.join (fun (x5 : Bool) => (⟨[(0, .w (.c (.ptr 0 0 0))), (8, .w (.c (.ptr 1 0 0))), (9, .w (.c (.ptr 2 0 0))), (12, .w (.c (.v (.int .i64 n1)))), (13, .w (.c (.v (.int .i64 x3.1)))), (54, .w (.c (.v (.int .i64 x4.1)))), (55, .w (.c (.v (.bool x5))))], [some (.bx 105 ((row_DCodes x4.2).map .v)), some (.bx 48 [.v (.int .i64 0), .v (.int .i64 0), .v (.tree (([] : List Int).map iRow))]), some (.bx 48 [.v (.int .i64 Args1), .v (.int .i64 Size1), .mref 3]), some (.sl 3 1 false (own1.map iRow))]⟩ : St)) ?_ ?_
        · rintro x5
          refine VS.cond (fun h4 => ?_) (fun h4 => ?_)
          · refine VS.seq ?_
            refine VS.region ?_
            refine X.lk ?_
            refine X.lk ?_
            refine X.lk ?_
            refine X.lenM (l := own1) ?_
            refine X.lk ?_
            refine X.nil ?_
            refine ES.seq ?_
            refine VS.cond (fun h5 => ?_) (fun h5 => ?_)
            · refine VS.drawn ?_
              refine X.lk ?_
              refine X.lk ?_
              refine X.lk ?_
              refine X.lk ?_
              refine X.lk ?_
              refine X.lk ?_
              refine X.call true [] [0] (draw_Next_ok x4.2 6) (fun x6 => ?_) (hn := ⟨rfl, trivial⟩)
              refine X.ck fun h6 => ?_
              refine X.addW ?_
              refine X.idxM (l := own1) (i := x3.1) (fun h7 => ?_)
              refine X.set (i := x3.1) (IntKind.i64.wrap (Args1 + ((8 : Int) * x6.1))) h7 ?_
              refine X.nilD ?_ (by kernel_rfl)
              refine ES.blkN ?_
              refine ES.blkN ?_
              exact ES.jn ih_k2 (x6.2, Args1, Size1, (setD own1 x3.1 (IntKind.i64.wrap (Args1 + ((8 : Int) * x6.1))))) (St.le_sub ⟨rfl, rfl, rfl, rfl, trivial⟩ ⟨rfl, rfl, rfl, rfl, trivial⟩ rfl)
            · refine VS.skip ?_
              refine ES.blkN ?_
              refine ES.blkN ?_
              exact ES.jn ih_k2 (x4.2, Args1, Size1, own1) (St.le_sub ⟨rfl, rfl, rfl, rfl, trivial⟩ ⟨rfl, rfl, rfl, rfl, trivial⟩ rfl)
          · refine VS.join (fun (x7 : Bool) => (⟨[(0, .w (.c (.ptr 0 0 0))), (8, .w (.c (.ptr 1 0 0))), (9, .w (.c (.ptr 2 0 0))), (12, .w (.c (.v (.int .i64 n1)))), (13, .w (.c (.v (.int .i64 x3.1)))), (54, .w (.c (.v (.int .i64 x4.1)))), (74, .w (.c (.v (.bool x7))))], [some (.bx 105 ((row_DCodes x4.2).map .v)), some (.bx 48 [.v (.int .i64 0), .v (.int .i64 0), .v (.tree (([] : List Int).map iRow))]), some (.bx 48 [.v (.int .i64 Args1), .v (.int .i64 Size1), .mref 3]), some (.sl 3 1 false (own1.map iRow))]⟩ : St)) ?_ ?_
            · rintro x7
              refine VS.cond (fun h8 => ?_) (fun h8 => ?_)
              · refine VS.seq ?_
                refine VS.region ?_
                refine X.lk ?_
                refine X.lk ?_
                refine X.lk ?_
                refine X.lenM (l := own1) ?_
                refine X.lk ?_
                refine X.nil ?_
                refine ES.seq ?_
                refine VS.cond (fun h9 => ?_) (fun h9 => ?_)
                · refine VS.drawn ?_
                  refine X.lk ?_
                  refine X.lk ?_
                  refine X.lk ?_
                  refine X.lk ?_
                  refine X.lk ?_
                  refine X.lk ?_
                  refine X.lk ?_
                  refine X.lk ?_
                  refine X.lenM (l := own1) ?_
                  refine X.call true [] [0] (draw_Next_ok x4.2 (own1.length : Int)) (fun x8 => ?_) (hn := ⟨rfl, trivial⟩)
                  refine X.idxM (l := own1) (i := x8.1) (fun h10 => ?_)
                  refine X.ld (i := x8.1) h10 ?_
                  refine X.idxM (l := own1) (i := x3.1) (fun h11 => ?_)
                  refine X.set (i := x3.1) (atD own1 x8.1) h11 ?_
                  refine X.nilD ?_ (by kernel_rfl)
                  refine ES.blkN ?_
                  refine ES.blkN ?_
                  exact ES.jn ih_k2 (x8.2, Args1, Size1, (setD own1 x3.1 (atD own1 x8.1))) (St.le_sub ⟨rfl, rfl, rfl, rfl, trivial⟩ ⟨rfl, rfl, rfl, rfl, trivial⟩ rfl)
                · refine VS.skip ?_
                  refine ES.blkN ?_
                  refine ES.blkN ?_
                  exact ES.jn ih_k2 (x4.2, Args1, Size1, own1) (St.le_sub ⟨rfl, rfl, rfl, rfl, trivial⟩ ⟨rfl, rfl, rfl, rfl, trivial⟩ rfl)
              · refine VS.seq ?_
                refine VS.region ?_
                refine X.lk ?_
                refine X.lk ?_
                refine X.nil ?_
                refine ES.seq ?_
                refine VS.cond (fun h12 => ?_) (fun h12 => ?_)
                · refine VS.drawn ?_
                  refine X.lk ?_
                  refine X.lk ?_
                  refine X.lk ?_
                  refine X.call true [] [0] (draw_Next_ok x4.2 4) (fun x9 => ?_) (hn := ⟨rfl, trivial⟩)
                  refine X.ck fun h13 => ?_
                  refine X.ck fun h14 => ?_
                  refine X.addW ?_
                  refine X.lk ?_
                  refine X.st ?_
                  refine X.nilD ?_ (by kernel_rfl)
                  refine ES.blkN ?_
                  refine ES.blkN ?_
                  exact ES.jn ih_k2 (x9.2, Args1, (IntKind.i64.wrap (Size1 + ((16 : Int) * (x9.1 - 2)))), own1) (St.le_sub ⟨rfl, rfl, rfl, rfl, trivial⟩ ⟨rfl, rfl, rfl, rfl, trivial⟩ rfl)
                · refine VS.seq ?_
                  refine VS.region ?_
                  refine X.lk ?_
                  refine X.lk ?_
                  refine X.nil ?_
                  refine ES.seq ?_
                  refine VS.cond (fun h15 => ?_) (fun h15 => ?_)
                  · refine VS.seq ?_
                    refine VS.region ?_
                    refine X.lk ?_
                    refine X.lk ?_
                    refine X.lk ?_
                    refine X.lenM (l := own1) ?_
                    refine X.lk ?_
                    refine X.lk ?_
                    refine X.bif (b := (decide (x3.1 < (own1.length : Int)))) (fun h16 => ?_) (fun h16 => ?_)
                    · refine X.gY h16 ?_
                      refine X.lk ?_
                      refine X.gY h16 ?_
                      refine X.call true [] [0] (draw_Next_ok x4.2 3) (fun x10 => ?_) (hn := ⟨rfl, trivial⟩)
                      refine X.gY h16 ?_
                      refine X.lk ?_
                      refine X.pT h16 ?_
                      refine X.nil ?_
                      refine ES.seq ?_
                      refine VS.cond (fun h17 => ?_) (fun h17 => ?_)
                      · refine VS.drawn ?_
                        refine X.lk ?_
                        refine X.lk ?_
                        refine X.lk ?_
                        refine X.lk ?_
                        refine X.call true [] [0] (draw_Int_ok x10.2) (fun x11 => ?_) (hn := ⟨rfl, trivial⟩)
                        refine X.idxM (l := own1) (i := x3.1) (fun h18 => ?_)
                        refine X.set (i := x3.1) x11.1 h18 ?_
                        refine X.nilD ?_ (by kernel_rfl)
                        refine ES.blkN ?_
                        refine ES.blkN ?_
                        exact ES.jn ih_k2 (x11.2, Args1, Size1, (setD own1 x3.1 x11.1)) (St.le_sub ⟨rfl, rfl, rfl, rfl, trivial⟩ ⟨rfl, rfl, rfl, rfl, trivial⟩ rfl)
                      · refine VS.skip ?_
                        refine ES.blkN ?_
                        refine ES.blkN ?_
                        exact ES.jn ih_k2 (x10.2, Args1, Size1, own1) (St.le_sub ⟨rfl, rfl, rfl, rfl, trivial⟩ ⟨rfl, rfl, rfl, rfl, trivial⟩ rfl)
                    · refine X.gN h16 ?_
                      refine X.gN h16 ?_
                      refine X.gN h16 ?_
                      refine X.pF h16 ?_
                      refine X.nil ?_
                      refine ES.seq ?_
                      refine VS.condF rfl ?_
                      refine VS.skip ?_
                      refine ES.blkN ?_
                      refine ES.blkN ?_
                      exact ES.jn ih_k2 (x4.2, Args1, Size1, own1) (St.le_sub ⟨rfl, rfl, rfl, rfl, trivial⟩ ⟨rfl, rfl, rfl, rfl, trivial⟩ rfl)
                  · refine VS.seq ?_
                    refine VS.region ?_
                    refine X.lk ?_
                    refine X.lk ?_
                    refine X.nil ?_
                    refine ES.seq ?_
                    refine VS.cond (fun h19 => ?_) (fun h19 => ?_)
                    · refine VS.seq ?_
                      refine VS.region ?_
                      refine X.lk ?_
                      refine X.call true [] [0] (draw_Next_ok x4.2 8) (fun x12 => ?_) (hn := ⟨rfl, trivial⟩)
                      refine X.nil ?_
                      refine ES.seq ?_
                      refine VS.block ?_
                      refine VS.seq ?_
                      refine VS.region ?_
                      refine X.lk ?_
                      refine X.lk ?_
                      refine X.nil ?_
                      refine ES.seq ?_
                      refine VS.cond (fun h20 => ?_) (fun h20 => ?_)
                      · refine VS.region ?_
                        refine X.lk ?_
                        refine X.call true [] [0] (draw_Int_ok x12.2) (fun x13 => ?_) (hn := ⟨rfl, trivial⟩)
                        refine X.lk ?_
                        refine X.st ?_
                        refine X.nil ?_
                        refine ES.blkN ?_
                        refine ES.blkN ?_
                        refine ES.blkN ?_
                        exact ES.jn ih_k2 (x13.2, x13.1, Size1, own1) (St.le_sub ⟨rfl, rfl, rfl, rfl, trivial⟩ ⟨rfl, rfl, rfl, rfl, trivial⟩ rfl)
                      · refine VS.seq ?_
                        refine VS.region ?_
                        refine X.lk ?_
                        refine X.lk ?_
                        refine X.nil ?_
                        refine ES.seq ?_
                        refine VS.cond (fun h21 => ?_) (fun h21 => ?_)
                        · refine VS.region ?_
                          refine X.lk ?_
                          refine X.call true [] [0] (draw_Int_ok x12.2) (fun x14 => ?_) (hn := ⟨rfl, trivial⟩)
                          refine X.lk ?_
                          refine X.st ?_
                          refine X.nil ?_
                          refine ES.blkN ?_
                          refine ES.blkN ?_
                          refine ES.blkN ?_
                          exact ES.jn ih_k2 (x14.2, Args1, x14.1, own1) (St.le_sub ⟨rfl, rfl, rfl, rfl, trivial⟩ ⟨rfl, rfl, rfl, rfl, trivial⟩ rfl)
                        · refine VS.seq ?_
                          refine VS.region ?_
                          refine X.lk ?_
                          refine X.lk ?_
                          refine X.nil ?_
                          refine ES.seq ?_
                          refine VS.cond (fun h22 => ?_) (fun h22 => ?_)
                          · refine VS.drawn ?_
                            refine X.lk ?_
                            refine X.lk ?_
                            refine X.lk ?_
                            refine X.call true [] [0] (draw_Next_ok x12.2 40) (fun x15 => ?_) (hn := ⟨rfl, trivial⟩)
                            refine X.bs 4 ([x15.1] : List Int) iRow ?_
                            refine X.appMM 5 (l := own1) (l' := ([x15.1] : List Int)) (fun h23 => ?_)
                            refine X.lk ?_
                            refine X.st ?_
                            refine X.nilD ?_ (by kernel_rfl)
                            refine ES.blkN ?_
                            refine ES.blkN ?_
                            refine ES.blkN ?_
                            exact ES.jn ih_k2 (x15.2, Args1, Size1, (own1 ++ ([x15.1] : List Int))) ((St.le_mvB _ 5 3 rfl rfl rfl rfl).trans (St.le_sub ⟨rfl, rfl, rfl, rfl, trivial⟩ ⟨rfl, rfl, rfl, rfl, trivial⟩ rfl))
                          · refine VS.skip ?_
                            refine ES.blkN ?_
                            refine ES.blkN ?_
                            refine ES.blkN ?_
                            exact ES.jn ih_k2 (x12.2, Args1, Size1, own1) (St.le_sub ⟨rfl, rfl, rfl, rfl, trivial⟩ ⟨rfl, rfl, rfl, rfl, trivial⟩ rfl)
                    · refine VS.skip ?_
                      refine ES.blkN ?_
                      refine ES.blkN ?_
                      exact ES.jn ih_k2 (x4.2, Args1, Size1, own1) (St.le_sub ⟨rfl, rfl, rfl, rfl, trivial⟩ ⟨rfl, rfl, rfl, rfl, trivial⟩ rfl)
            · intro k4 ih_k4
              refine VS.seq ?_
              refine VS.region ?_
              refine X.lk ?_
              refine X.lk ?_
              refine X.nil ?_
              refine ES.seq ?_
              refine VS.cond (fun h24 => ?_) (fun h24 => ?_)
              · refine VS.skip ?_
                exact ES.jn ih_k4 (decide (x4.1 = 3)) (St.le_sub ⟨rfl, rfl, rfl, rfl, rfl, rfl, rfl, trivial⟩ ⟨rfl, rfl, rfl, rfl, trivial⟩ rfl)
              · refine VS.region ?_
                refine X.lk ?_
                refine X.lk ?_
                refine X.nil ?_
                exact ES.jn ih_k4 (decide (x4.1 = 4)) (St.le_sub ⟨rfl, rfl, rfl, rfl, rfl, rfl, rfl, trivial⟩ ⟨rfl, rfl, rfl, rfl, trivial⟩ rfl)
        · intro k3 ih_k3
          refine VS.seq ?_
          refine VS.region ?_
          refine X.lk ?_
          refine X.lk ?_
          refine X.nil ?_
          refine ES.seq ?_
          refine VS.cond (fun h25 => ?_) (fun h25 => ?_)
          · refine VS.skip ?_
            exact ES.jn ih_k3 (decide (x4.1 = 0)) (St.le_sub ⟨rfl, rfl, rfl, rfl, rfl, rfl, rfl, trivial⟩ ⟨rfl, rfl, rfl, rfl, trivial⟩ rfl)
          · refine VS.seq ?_
            refine VS.region ?_
            refine X.lk ?_
            refine X.lk ?_
            refine X.nil ?_
            refine ES.seq ?_
            refine VS.cond (fun h26 => ?_) (fun h26 => ?_)
            · refine VS.skip ?_
              exact ES.jn ih_k3 (decide (x4.1 = 1)) (St.le_sub ⟨rfl, rfl, rfl, rfl, rfl, rfl, rfl, trivial⟩ ⟨rfl, rfl, rfl, rfl, trivial⟩ rfl)
            · refine VS.region ?_
              refine X.lk ?_
              refine X.lk ?_
              refine X.nil ?_
              exact ES.jn ih_k3 (decide (x4.1 = 2)) (St.le_sub ⟨rfl, rfl, rfl, rfl, rfl, rfl, rfl, trivial⟩ ⟨rfl, rfl, rfl, rfl, trivial⟩ rfl)
    · refine VS.exit ?_
      refine ES.thnE ?_
      refine ES.thnE ?_
      refine ES.blkE ?_
      refine ES.seq ?_
      refine VS.seq ?_
      refine VS.region ?_
      refine X.lk ?_
      refine X.st ?_
      refine X.nil ?_
      refine ES.seq ?_
      refine VS.ret ?_
      refine ES.ret ?_
      exact Ret.weak (St.le_tcell _ 1 2 3 rfl rfl rfl rfl) (Ret.clo [.agg ((row_ALayout (⟨Args1, Size1, own1⟩ : ALayout)).map .v)] ⟨⟨_, _, _, _, _, _, rfl, rfl, fits rfl, rfl⟩, trivial⟩ ⟨rfl, trivial⟩)
  · intro k1 ih_k1
    refine VS.seq ?_
    refine VS.region ?_
    refine X.lk ?_
    refine X.call true [] [0] (draw_Next_ok c1 3) (fun x16 => ?_) (hn := ⟨rfl, trivial⟩)
    refine X.lk ?_
    refine X.nil ?_
    refine ES.seq ?_
    refine VS.cond (fun h27 => ?_) (fun h27 => ?_)
    · refine VS.seq ?_
      refine VS.region ?_
      refine X.lk ?_
      refine X.lk ?_
      refine X.call true [] [] (r31_Propose_ok p1 i1) (fun x17 => ?_)
      refine X.alloc 4 ?_
      refine X.st ?_
      refine X.nil ?_
      refine ES.seq ?_
      refine VS.seq ?_
      refine VS.region ?_
      refine X.lk ?_
      refine X.lk ?_
      refine X.lk ?_
      refine X.lenT ?_
      refine X.lk ?_
      refine X.lk ?_
      refine X.lenT ?_
      refine X.lk ?_
      refine X.nil ?_
      refine ES.seq ?_
      refine VS.cond (fun h28 => ?_) (fun h28 => ?_)
      · refine VS.region ?_
        refine X.lk ?_
        refine X.lk ?_
        refine X.st ?_
        refine X.nil ?_
        exact ES.jn ih_k1 (x16.2, x17.Layout) ((St.le_drop _ 1 (Nat.le_of_ble_eq_true rfl)).trans ((St.le_mvB _ 2 1 rfl rfl rfl rfl).trans ((St.le_mvB _ 3 2 rfl rfl rfl rfl).trans (St.le_sub ⟨rfl, rfl, rfl, trivial⟩ ⟨rfl, rfl, rfl, trivial⟩ rfl))))
      · refine VS.skip ?_
        exact ES.jn ih_k1 (x16.2, x1.1) ((St.le_drop _ 1 (Nat.le_of_ble_eq_true rfl)).trans ((St.le_mvB _ 2 1 rfl rfl rfl rfl).trans ((St.le_mvB _ 3 2 rfl rfl rfl rfl).trans (St.le_sub ⟨rfl, rfl, rfl, trivial⟩ ⟨rfl, rfl, rfl, trivial⟩ rfl))))
    · refine VS.skip ?_
      exact ES.jn ih_k1 (x16.2, x1.1) ((St.le_drop _ 1 (Nat.le_of_ble_eq_true rfl)).trans ((St.le_mvB _ 2 1 rfl rfl rfl rfl).trans ((St.le_mvB _ 3 2 rfl rfl rfl rfl).trans (St.le_sub ⟨rfl, rfl, rfl, trivial⟩ ⟨rfl, rfl, rfl, trivial⟩ rfl))))
set_option maxHeartbeats 4000000 in
theorem extent_bound_ok (n1 : Int) : ∀ r : Bool, extent_bound n1 r → FCalls Try.prog 72 [] [.c (.v (.int .i64 n1))] (.w (.c (.v (.bool r)))) [] [] := by
  refine fnS 9 ?_
  unfold extent_bound
  refine VS.seq ?_
  refine VS.region ?_
  refine X.lk ?_
  refine X.nil ?_
  refine ES.seq ?_
  refine VS.seq ?_
  refine VS.region ?_
  refine X.lk ?_
  refine X.lk ?_
  refine X.lk ?_
  refine X.bif (b := (decide (0 ≤ n1))) (fun h1 => ?_) (fun h1 => ?_)
  · refine X.gY h1 ?_
    refine X.lk ?_
    refine X.gY h1 ?_
    refine X.lk ?_
    refine X.pT h1 ?_
    refine X.lk ?_
    refine X.nil ?_
    refine ES.seq ?_
    refine VS.ret ?_
    refine ES.ret ?_
    exact Ret.clo [.c (.v (.bool (decide (n1 ≤ 2147483647))))] ⟨rfl, trivial⟩ trivial
  · refine X.gN h1 ?_
    refine X.gN h1 ?_
    refine X.pF h1 ?_
    refine X.lk ?_
    refine X.nil ?_
    refine ES.seq ?_
    refine VS.ret ?_
    refine ES.ret ?_
    exact Ret.clo [.c (.v (.bool false))] ⟨rfl, trivial⟩ trivial
set_option maxHeartbeats 4000000 in
theorem extent_right_ok (a1 : AInterval) : ∀ r : Bool, extent_right a1 r → FCalls Try.prog 76 [] [.agg ((row_AInterval a1).map .v)] (.w (.c (.v (.bool r)))) [] [] := by
  refine fnS 19 ?_
  unfold extent_right
  refine VS.seq ?_
  refine VS.region ?_
  refine X.box 0 ?_
  refine X.lk ?_
  refine X.nil ?_
  refine ES.seq ?_
  refine VS.seq ?_
  refine VS.region ?_
  refine X.lk ?_
  refine X.lk ?_
  refine X.call true [] [] (extent_bound_ok a1.Off) (fun x1 => ?_)
  refine X.lk ?_
  refine X.bif (b := x1) (fun h1 => ?_) (fun h1 => ?_)
  · refine X.gY h1 ?_
    refine X.lk ?_
    refine X.gY h1 ?_
    refine X.lk ?_
    refine X.gY h1 ?_
    refine X.call true [] [] (extent_bound_ok a1.Size) (fun x2 => ?_)
    refine X.pT h1 ?_
    refine X.lk ?_
    refine X.bif (b := x2) (fun h2 => ?_) (fun h2 => ?_)
    · refine X.gY h2 ?_
      refine X.lk ?_
      refine X.gY h2 ?_
      refine X.lk ?_
      refine X.gY h2 ?_
      refine X.lk ?_
      refine X.gY h2 ?_
      refine X.lk ?_
      refine X.gY h2 ?_
      refine X.ck fun h3 => ?_
      refine X.gY h2 ?_
      refine X.lk ?_
      refine X.pT h2 ?_
      refine X.lk ?_
      refine X.nil ?_
      refine ES.seq ?_
      refine VS.ret ?_
      refine ES.ret ?_
      exact Ret.clo [.c (.v (.bool (decide ((a1.Off + a1.Size) ≤ 2147483647))))] ⟨rfl, trivial⟩ trivial
    · refine X.gN h2 ?_
      refine X.gN h2 ?_
      refine X.gN h2 ?_
      refine X.gN h2 ?_
      refine X.gN h2 ?_
      refine X.gN h2 ?_
      refine X.pF h2 ?_
      refine X.lk ?_
      refine X.nil ?_
      refine ES.seq ?_
      refine VS.ret ?_
      refine ES.ret ?_
      exact Ret.clo [.c (.v (.bool false))] ⟨rfl, trivial⟩ trivial
  · refine X.gN h1 ?_
    refine X.gN h1 ?_
    refine X.gN h1 ?_
    refine X.pF h1 ?_
    refine X.lk ?_
    refine X.gN rfl ?_
    refine X.gN rfl ?_
    refine X.gN rfl ?_
    refine X.gN rfl ?_
    refine X.gN rfl ?_
    refine X.gN rfl ?_
    refine X.pF rfl ?_
    refine X.lk ?_
    refine X.nil ?_
    refine ES.seq ?_
    refine VS.ret ?_
    refine ES.ret ?_
    exact Ret.clo [.c (.v (.bool false))] ⟨rfl, trivial⟩ trivial
set_option maxHeartbeats 4000000 in
theorem extent_Inside_ok (a1 : AInterval) (size1 : Int) : ∀ r : Bool, extent_Inside a1 size1 r → FCalls Try.prog 61 [] [.agg ((row_AInterval a1).map .v), .c (.v (.int .i64 size1))] (.w (.c (.v (.bool r)))) [] [] := by
  refine fnS 16 ?_
  unfold extent_Inside
  refine VS.seq ?_
  refine VS.region ?_
  refine X.box 0 ?_
  refine X.lk ?_
  refine X.nil ?_
  refine ES.seq ?_
  refine VS.seq ?_
  refine VS.region ?_
  refine X.lk ?_
  refine X.call true [] [] (extent_right_ok a1) (fun x1 => ?_)
  refine X.lk ?_
  refine X.bif (b := x1) (fun h1 => ?_) (fun h1 => ?_)
  · refine X.gY h1 ?_
    refine X.lk ?_
    refine X.gY h1 ?_
    refine X.lk ?_
    refine X.gY h1 ?_
    refine X.lk ?_
    refine X.gY h1 ?_
    refine X.lk ?_
    refine X.gY h1 ?_
    refine X.ck fun h2 => ?_
    refine X.gY h1 ?_
    refine X.lk ?_
    refine X.gY h1 ?_
    refine X.lk ?_
    refine X.pT h1 ?_
    refine X.lk ?_
    refine X.nil ?_
    refine ES.seq ?_
    refine VS.ret ?_
    refine ES.ret ?_
    exact Ret.clo [.c (.v (.bool (decide ((a1.Off + a1.Size) ≤ size1))))] ⟨rfl, trivial⟩ trivial
  · refine X.gN h1 ?_
    refine X.gN h1 ?_
    refine X.gN h1 ?_
    refine X.gN h1 ?_
    refine X.gN h1 ?_
    refine X.gN h1 ?_
    refine X.gN h1 ?_
    refine X.pF h1 ?_
    refine X.lk ?_
    refine X.nil ?_
    refine ES.seq ?_
    refine VS.ret ?_
    refine ES.ret ?_
    exact Ret.clo [.c (.v (.bool false))] ⟨rfl, trivial⟩ trivial
set_option maxHeartbeats 4000000 in
theorem slices_Clone___int_int__ok (s1 : List Int) : ∀ r : List Int, slices_Clone___int_int_ s1 r → FCalls Try.prog 62 [] [.c (.v (.tree (s1.map iRow)))] (.w (.c (.v (.tree (r.map iRow))))) [] [] := by
  refine fnS 8 ?_
  unfold slices_Clone___int_int_
  refine VS.seq ?_
  refine VS.region ?_
  refine X.lk ?_
  refine X.nil ?_
  refine ES.seq ?_
  refine VS.seq ?_
  refine VS.seq ?_
  refine VS.nilTest (l := s1) ?_ ?_
  · refine ES.seq ?_
    refine VS.condT rfl ?_
    refine VS.seq ?_
    refine VS.region ?_
    refine X.lk ?_
    refine X.nil ?_
    refine ES.seq ?_
    refine VS.ret ?_
    refine ES.thnR ?_
    refine ES.ret ?_
    exact Ret.weak (St.le_nil _ 2 rfl) (Ret.clo [.c (.v (.tree (([] : List Int).map iRow)))] ⟨rfl, trivial⟩ trivial)
  · refine ES.seq ?_
    refine VS.condF rfl ?_
    refine VS.skip ?_
    refine ES.seq ?_
    refine VS.seq ?_
    refine VS.region ?_
    refine X.bs 0 ([] : List Int) iRow ?_
    refine X.lk ?_
    refine X.appMT 1 (l := ([] : List Int)) (l' := s1) (fun h1 => ?_)
    refine X.lk ?_
    refine X.nil ?_
    refine ES.seq ?_
    refine VS.ret ?_
    refine ES.ret ?_
    exact Ret.weak (St.le_tree _ 2 1 rfl rfl) (Ret.clo [.c (.v (.tree ((([] : List Int) ++ s1).map iRow)))] ⟨rfl, trivial⟩ trivial)
set_option maxHeartbeats 4000000 in
theorem colour_End_ok (s1 : List ASlot) (off1 : List Int) : ∀ r : Int, colour_End s1 off1 r → FCalls Try.prog 63 [] [.c (.v (.tree (s1.map row_ASlot))), .c (.v (.tree (off1.map iRow)))] (.w (.c (.v (.int .i64 r)))) [] [] := by
  refine fnS 26 ?_
  unfold colour_End
  refine VS.seq ?_
  refine VS.region ?_
  refine X.lk ?_
  refine X.nil ?_
  refine ES.seq ?_
  refine VS.seq ?_
  refine VS.region ?_
  refine X.lk ?_
  refine X.nil ?_
  refine ES.seq ?_
  refine VS.seq ?_
  refine VS.seq ?_
  refine VS.region ?_
  refine X.lk ?_
  refine X.lenT ?_
  refine X.lk ?_
  refine X.nil ?_
  refine ES.seq ?_
  refine VS.block ?_
  refine VS.loop (fun jj : Int × Int => (⟨[(0, .w (.c (.v (.tree (s1.map row_ASlot))))), (1, .w (.c (.v (.tree (off1.map iRow))))), (5, .w (.c (.v (.int .i64 jj.1)))), (8, .w (.c (.v (.int .i64 (s1.length : Int))))), (9, .w (.c (.v (.int .i64 jj.2))))], []⟩ : St)) (j0 := (0, 0)) (St.le_sub ⟨rfl, rfl, rfl, rfl, rfl, trivial⟩ trivial rfl) ?_
  rintro n1 again1 ih_again1 ⟨end1, x1⟩
  refine VS.seq ?_
  refine VS.region ?_
  refine X.lk ?_
  refine X.nil ?_
  refine ES.seq ?_
  refine VS.seq ?_
  refine VS.cond (fun h1 => ?_) (fun h1 => ?_)
  · refine VS.skip ?_
    refine ES.seq ?_
    refine VS.seq ?_
    refine VS.block ?_
    refine VS.seq ?_
    refine VS.region ?_
    refine X.lk ?_
    refine X.lk ?_
    refine X.nil ?_
    refine ES.seq ?_
    refine VS.drawn ?_
    refine X.lk ?_
    refine X.lk ?_
    refine X.lk ?_
    refine X.idxT (fun h2 => ?_)
    refine X.lk ?_
    refine X.lk ?_
    refine X.lk ?_
    refine X.idxT (fun h3 => ?_)
    refine X.lk ?_
    refine X.lk ?_
    refine X.ck fun h4 => ?_
    refine X.max ?_
    refine X.lk ?_
    refine X.nilD ?_ (by kernel_rfl)
    refine ES.blkN ?_
    refine ES.seq ?_
    refine VS.region ?_
    refine X.ck fun h5 => ?_
    refine X.lk ?_
    refine X.nil ?_
    exact ES.go ih_again1 ((max end1 ((atD off1 x1) + ((atD s1 x1).Size))), (x1 + 1)) (St.le_sub ⟨rfl, rfl, rfl, rfl, rfl, trivial⟩ trivial rfl)
  · refine VS.exit ?_
    refine ES.thnE ?_
    refine ES.thnE ?_
    refine ES.blkE ?_
    refine ES.seq ?_
    refine VS.seq ?_
    refine VS.region ?_
    refine X.lk ?_
    refine X.lk ?_
    refine X.nil ?_
    refine ES.seq ?_
    refine VS.ret ?_
    refine ES.ret ?_
    exact Ret.clo [.c (.v (.int .i64 end1))] ⟨rfl, trivial⟩ trivial
set_option maxHeartbeats 4000000 in
theorem extent_Power_ok (n1 : Int) : ∀ r : Bool, extent_Power n1 r → FCalls Try.prog 73 [] [.c (.v (.int .i64 n1))] (.w (.c (.v (.bool r)))) [] [] := by
  refine fnS 16 ?_
  unfold extent_Power
  refine VS.seq ?_
  refine VS.region ?_
  refine X.lk ?_
  refine X.nil ?_
  refine ES.seq ?_
  refine VS.seq ?_
  refine VS.region ?_
  refine X.lk ?_
  refine X.lk ?_
  refine X.lk ?_
  refine X.bif (b := (decide (1 ≤ n1))) (fun h1 => ?_) (fun h1 => ?_)
  · refine X.gY h1 ?_
    refine X.lk ?_
    refine X.gY h1 ?_
    refine X.lk ?_
    refine X.pT h1 ?_
    refine X.lk ?_
    refine X.bif (b := (decide (n1 ≤ 16777216))) (fun h2 => ?_) (fun h2 => ?_)
    · refine X.gY h2 ?_
      refine X.lk ?_
      refine X.gY h2 ?_
      refine X.lk ?_
      refine X.gY h2 ?_
      refine X.ck fun h3 => ?_
      refine X.gY h2 ?_
      refine X.bits ?_
      refine X.gY h2 ?_
      refine X.lk ?_
      refine X.pT h2 ?_
      refine X.lk ?_
      refine X.nil ?_
      refine ES.seq ?_
      refine VS.ret ?_
      refine ES.ret ?_
      exact Ret.clo [.c (.v (.bool (decide ((Go.bits .and .i64 n1 (n1 - 1)) = 0))))] ⟨rfl, trivial⟩ trivial
    · refine X.gN h2 ?_
      refine X.gN h2 ?_
      refine X.gN h2 ?_
      refine X.gN h2 ?_
      refine X.gN h2 ?_
      refine X.pF h2 ?_
      refine X.lk ?_
      refine X.nil ?_
      refine ES.seq ?_
      refine VS.ret ?_
      refine ES.ret ?_
      exact Ret.clo [.c (.v (.bool false))] ⟨rfl, trivial⟩ trivial
  · refine X.gN h1 ?_
    refine X.gN h1 ?_
    refine X.pF h1 ?_
    refine X.lk ?_
    refine X.gN rfl ?_
    refine X.gN rfl ?_
    refine X.gN rfl ?_
    refine X.gN rfl ?_
    refine X.gN rfl ?_
    refine X.pF rfl ?_
    refine X.lk ?_
    refine X.nil ?_
    refine ES.seq ?_
    refine VS.ret ?_
    refine ES.ret ?_
    exact Ret.clo [.c (.v (.bool false))] ⟨rfl, trivial⟩ trivial
set_option maxHeartbeats 4000000 in
theorem extent_up_ok (n1 : Int) (align1 : Int) : ∀ r : Int, extent_up n1 align1 r → FCalls Try.prog 81 [] [.c (.v (.int .i64 n1)), .c (.v (.int .i64 align1))] (.w (.c (.v (.int .i64 r)))) [] [] := by
  refine fnS 12 ?_
  unfold extent_up
  refine VS.seq ?_
  refine VS.region ?_
  refine X.lk ?_
  refine X.nil ?_
  refine ES.seq ?_
  refine VS.seq ?_
  refine VS.region ?_
  refine X.lk ?_
  refine X.lk ?_
  refine X.ck fun h1 => ?_
  refine X.ck fun h2 => ?_
  refine X.lk ?_
  refine X.ck fun h3 => ?_
  refine X.bits ?_
  refine X.lk ?_
  refine X.nil ?_
  refine ES.seq ?_
  refine VS.ret ?_
  refine ES.ret ?_
  exact Ret.clo [.c (.v (.int .i64 (Go.bits .andNot .i64 ((n1 + align1) - 1) (align1 - 1))))] ⟨rfl, trivial⟩ trivial
set_option maxHeartbeats 4000000 in
theorem extent_limited_ok (n1 : Int) : ∀ r : Int × Int, extent_limited n1 r → FCalls Try.prog 97 [] [.c (.v (.int .i64 n1))] (.tup [.c (.v (.int .i64 r.1)), .c (.v (.int .i64 r.2))]) [] [] := by
  refine fnS 7 ?_
  unfold extent_limited
  refine VS.seq ?_
  refine VS.region ?_
  refine X.lk ?_
  refine X.lk ?_
  refine X.nil ?_
  refine ES.seq ?_
  refine VS.seq ?_
  refine VS.seq ?_
  refine VS.region ?_
  refine X.lk ?_
  refine X.lk ?_
  refine X.nil ?_
  refine ES.seq ?_
  refine VS.cond (fun h1 => ?_) (fun h1 => ?_)
  · refine VS.seq ?_
    refine VS.region ?_
    refine X.lk ?_
    refine X.lk ?_
    refine X.nil ?_
    refine ES.seq ?_
    refine VS.ret ?_
    refine ES.thnR ?_
    refine ES.ret ?_
    exact Ret.clo [.c (.v (.int .i64 0)), .c (.v (.int .i64 9))] ⟨rfl, rfl, trivial⟩ trivial
  · refine VS.skip ?_
    refine ES.seq ?_
    refine VS.seq ?_
    refine VS.region ?_
    refine X.lk ?_
    refine X.lk ?_
    refine X.lk ?_
    refine X.nil ?_
    refine ES.seq ?_
    refine VS.ret ?_
    refine ES.ret ?_
    exact Ret.clo [.c (.v (.int .i64 n1)), .c (.v (.int .i64 0))] ⟨rfl, rfl, trivial⟩ trivial
set_option maxHeartbeats 4000000 in
theorem extent_Up_ok (n1 : Int) (align1 : Int) : ∀ r : Int × Int, extent_Up n1 align1 r → FCalls Try.prog 57 [] [.c (.v (.int .i64 n1)), .c (.v (.int .i64 align1))] (.tup [.c (.v (.int .i64 r.1)), .c (.v (.int .i64 r.2))]) [] [] := by
  refine fnS 20 ?_
  unfold extent_Up
  refine VS.seq ?_
  refine VS.region ?_
  refine X.lk ?_
  refine X.lk ?_
  refine X.nil ?_
  refine ES.seq ?_
  refine VS.seq ?_
  refine VS.seq ?_
  refine VS.region ?_
  refine X.lk ?_
  refine X.call true [] [] (extent_bound_ok n1) (fun x1 => ?_)
  refine X.lk ?_
  refine X.lk ?_
  refine X.bif (b := (!x1)) (fun h1 => ?_) (fun h1 => ?_)
  · refine X.gN h1 ?_
    refine X.gN h1 ?_
    refine X.gN h1 ?_
    refine X.pT h1 ?_
    refine X.nil ?_
    refine ES.seq ?_
    refine VS.condT rfl ?_
    refine VS.seq ?_
    refine VS.region ?_
    refine X.lk ?_
    refine X.lk ?_
    refine X.nil ?_
    refine ES.seq ?_
    refine VS.ret ?_
    refine ES.thnR ?_
    refine ES.ret ?_
    exact Ret.clo [.c (.v (.int .i64 0)), .c (.v (.int .i64 4))] ⟨rfl, rfl, trivial⟩ trivial
  · refine X.gY h1 ?_
    refine X.lk ?_
    refine X.gY h1 ?_
    refine X.call true [] [] (extent_Power_ok align1) (fun x2 => ?_)
    refine X.gY h1 ?_
    refine X.lk ?_
    refine X.pF h1 ?_
    refine X.nil ?_
    refine ES.seq ?_
    refine VS.cond (fun h2 => ?_) (fun h2 => ?_)
    · refine VS.seq ?_
      refine VS.region ?_
      refine X.lk ?_
      refine X.lk ?_
      refine X.nil ?_
      refine ES.seq ?_
      refine VS.ret ?_
      refine ES.thnR ?_
      refine ES.ret ?_
      exact Ret.clo [.c (.v (.int .i64 0)), .c (.v (.int .i64 4))] ⟨rfl, rfl, trivial⟩ trivial
    · refine VS.skip ?_
      refine ES.seq ?_
      refine VS.seq ?_
      refine VS.region ?_
      refine X.lk ?_
      refine X.lk ?_
      refine X.call true [] [] (extent_up_ok n1 align1) (fun x3 => ?_)
      refine X.call true [] [] (extent_limited_ok x3) (fun x4 => ?_)
      refine X.lk ?_
      refine X.lk ?_
      refine X.lk ?_
      refine X.lk ?_
      refine X.nil ?_
      refine ES.seq ?_
      refine VS.ret ?_
      refine ES.ret ?_
      exact Ret.clo [.c (.v (.int .i64 x4.1)), .c (.v (.int .i64 x4.2))] ⟨rfl, rfl, trivial⟩ trivial
set_option maxHeartbeats 4000000 in
theorem extent_Add_ok (x1 : Int) (y1 : Int) : ∀ r : Int × Int, extent_Add x1 y1 r → FCalls Try.prog 58 [] [.c (.v (.int .i64 x1)), .c (.v (.int .i64 y1))] (.tup [.c (.v (.int .i64 r.1)), .c (.v (.int .i64 r.2))]) [] [] := by
  refine fnS 20 ?_
  unfold extent_Add
  refine VS.seq ?_
  refine VS.region ?_
  refine X.lk ?_
  refine X.lk ?_
  refine X.nil ?_
  refine ES.seq ?_
  refine VS.seq ?_
  refine VS.seq ?_
  refine VS.region ?_
  refine X.lk ?_
  refine X.call true [] [] (extent_bound_ok x1) (fun x2 => ?_)
  refine X.lk ?_
  refine X.lk ?_
  refine X.bif (b := (!x2)) (fun h1 => ?_) (fun h1 => ?_)
  · refine X.gN h1 ?_
    refine X.gN h1 ?_
    refine X.gN h1 ?_
    refine X.pT h1 ?_
    refine X.nil ?_
    refine ES.seq ?_
    refine VS.condT rfl ?_
    refine VS.seq ?_
    refine VS.region ?_
    refine X.lk ?_
    refine X.lk ?_
    refine X.nil ?_
    refine ES.seq ?_
    refine VS.ret ?_
    refine ES.thnR ?_
    refine ES.ret ?_
    exact Ret.clo [.c (.v (.int .i64 0)), .c (.v (.int .i64 4))] ⟨rfl, rfl, trivial⟩ trivial
  · refine X.gY h1 ?_
    refine X.lk ?_
    refine X.gY h1 ?_
    refine X.call true [] [] (extent_bound_ok y1) (fun x3 => ?_)
    refine X.gY h1 ?_
    refine X.lk ?_
    refine X.pF h1 ?_
    refine X.nil ?_
    refine ES.seq ?_
    refine VS.cond (fun h2 => ?_) (fun h2 => ?_)
    · refine VS.seq ?_
      refine VS.region ?_
      refine X.lk ?_
      refine X.lk ?_
      refine X.nil ?_
      refine ES.seq ?_
      refine VS.ret ?_
      refine ES.thnR ?_
      refine ES.ret ?_
      exact Ret.clo [.c (.v (.int .i64 0)), .c (.v (.int .i64 4))] ⟨rfl, rfl, trivial⟩ trivial
    · refine VS.skip ?_
      refine ES.seq ?_
      refine VS.seq ?_
      refine VS.region ?_
      refine X.lk ?_
      refine X.lk ?_
      refine X.ck fun h3 => ?_
      refine X.call true [] [] (extent_limited_ok (x1 + y1)) (fun x4 => ?_)
      refine X.lk ?_
      refine X.lk ?_
      refine X.lk ?_
      refine X.lk ?_
      refine X.nil ?_
      refine ES.seq ?_
      refine VS.ret ?_
      refine ES.ret ?_
      exact Ret.clo [.c (.v (.int .i64 x4.1)), .c (.v (.int .i64 x4.2))] ⟨rfl, rfl, trivial⟩ trivial
set_option maxHeartbeats 4000000 in
theorem pack_sized_ok (y1 : ALayout) (end1 : Int) (align1 : Int) : ∀ r : ALayout × Int, pack_sized y1 end1 align1 r → FCalls Try.prog 59 [] [.agg ((row_ALayout y1).map .v), .c (.v (.int .i64 end1)), .c (.v (.int .i64 align1))] (.tup [.agg ((row_ALayout r.1).map .v), .c (.v (.int .i64 r.2))]) [] [] := by
  refine fnS 29 ?_
  unfold pack_sized
  refine VS.seq ?_
  refine VS.region ?_
  refine X.box 0 ?_
  refine X.alloc 1 ?_
  refine X.lk ?_
  refine X.nil ?_
  refine ES.seq ?_
  refine VS.seq ?_
  refine VS.region ?_
  refine X.lk ?_
  refine X.lk ?_
  refine X.call true [] [] (extent_Up_ok end1 align1) (fun x1 => ?_)
  refine X.lk ?_
  refine X.lk ?_
  refine X.lk ?_
  refine X.lk ?_
  refine X.lk ?_
  refine X.nil ?_
  refine ES.seq ?_
  refine VS.join (fun (e1 : Int) => (⟨[(3, .w (.c (.ptr 0 0 0))), (6, .w (.c (.ptr 1 0 0))), (8, .w (.c (.v (.int .i64 x1.1)))), (9, .w (.c (.v (.int .i64 e1))))], [some (.bx 48 ((row_ALayout y1).map .v)), some (.bx 48 [.v (.int .i64 0), .v (.int .i64 0), .v (.tree (([] : List Int).map iRow))])]⟩ : St)) ?_ ?_
  · rintro e1
    refine VS.seq ?_
    refine VS.seq ?_
    refine VS.region ?_
    refine X.lk ?_
    refine X.lk ?_
    refine X.nil ?_
    refine ES.seq ?_
    refine VS.cond (fun h1 => ?_) (fun h1 => ?_)
    · refine VS.seq ?_
      refine VS.region ?_
      refine X.build ?_
      refine X.st ?_
      refine X.lk ?_
      refine X.nil ?_
      refine ES.seq ?_
      refine VS.ret ?_
      refine ES.thnR ?_
      refine ES.ret ?_
      exact Ret.clo [.agg ((row_ALayout (⟨0, 0, ([] : List Int)⟩ : ALayout)).map .v), .c (.v (.int .i64 9))] ⟨⟨_, _, _, _, _, _, rfl, rfl, fits rfl, rfl⟩, rfl, trivial⟩ trivial
    · refine VS.skip ?_
      refine ES.seq ?_
      refine VS.seq ?_
      refine VS.region ?_
      refine X.lk ?_
      refine X.lk ?_
      refine X.st ?_
      refine X.nil ?_
      refine ES.seq ?_
      refine VS.seq ?_
      refine VS.region ?_
      refine X.lk ?_
      refine X.st ?_
      refine X.lk ?_
      refine X.nil ?_
      refine ES.seq ?_
      refine VS.ret ?_
      refine ES.ret ?_
      exact Ret.clo [.agg ((row_ALayout (⟨y1.Args, x1.1, y1.Off⟩ : ALayout)).map .v), .c (.v (.int .i64 0))] ⟨⟨_, _, _, _, _, _, rfl, rfl, fits rfl, rfl⟩, rfl, trivial⟩ trivial
  · intro k1 ih_k1
    refine VS.seq ?_
    refine VS.region ?_
    refine X.lk ?_
    refine X.lk ?_
    refine X.nil ?_
    refine ES.seq ?_
    refine VS.cond (fun h2 => ?_) (fun h2 => ?_)
    · refine VS.region ?_
      refine X.lk ?_
      refine X.call true [] [] (extent_Add_ok x1.1 128) (fun x2 => ?_)
      refine X.lk ?_
      refine X.lk ?_
      refine X.lk ?_
      refine X.lk ?_
      refine X.nil ?_
      exact ES.jn ih_k1 x2.2 (St.le_sub ⟨rfl, rfl, rfl, rfl, trivial⟩ ⟨rfl, rfl, trivial⟩ rfl)
    · refine VS.skip ?_
      exact ES.jn ih_k1 x1.2 (St.le_sub ⟨rfl, rfl, rfl, rfl, trivial⟩ ⟨rfl, rfl, trivial⟩ rfl)
end Go.Proofs.Ytbppgdffochdmaa.Q
