/- Walks of functions: the code does what the lifted text says (written by a program). -/
import Derived.Test.YtbppgdffochdmaaGwPackFinish1
set_option linter.unusedVariables false
set_option linter.unusedSimpArgs false
set_option maxRecDepth 8000
namespace Go.Proofs.Ytbppgdffochdmaa.Q
open Go.RowKit
set_option maxHeartbeats 4000000 in
theorem pack_Finish_ok (p1 : AProgram) (i1 : Int) (align1 : Int) (off1 : List Int) : ∀ r : ALayout × Int, pack_Finish p1 i1 align1 off1 r → FCalls Try.prog 33 [] [.agg ((row_AProgram p1).map .v), .c (.v (.int .i64 i1)), .c (.v (.int .i64 align1)), .c (.v (.tree (off1.map iRow)))] (.tup [.agg ((row_ALayout r.1).map .v), .c (.v (.int .i64 r.2))]) [] [] := by
  refine fnS 61 ?_
  unfold pack_Finish
  refine VS.seq ?_
  refine VS.region ?_
  refine X.box 0 ?_
  refine X.alloc 1 ?_
  refine X.lk ?_
  refine X.nil ?_
  refine ES.seq ?_
  refine VS.seq ?_
  refine VS.region ?_
  refine X.lk ?_
  refine X.lk ?_
  refine X.lk ?_
  refine X.idxT (fun h1 => ?_)
  refine X.lk ?_
  refine X.lk ?_
  refine X.lk ?_
  refine X.nil ?_
  refine ES.seq ?_
  refine VS.seq ?_
  refine VS.seq ?_
  refine VS.region ?_
  refine X.lk ?_
  refine X.lenT ?_
  refine X.lk ?_
  refine X.lenT ?_
  refine X.lk ?_
  refine X.nil ?_
  refine ES.seq ?_
  refine VS.cond (fun h2 => ?_) (fun h2 => ?_)
  · refine VS.seq ?_
    refine VS.region ?_
    refine X.build ?_
    refine X.st ?_
    refine X.lk ?_
    refine X.nil ?_
    refine ES.seq ?_
    refine VS.ret ?_
    refine ES.thnR ?_
    refine ES.ret ?_
    exact Ret.clo [.agg ((row_ALayout (⟨0, 0, ([] : List Int)⟩ : ALayout)).map .v), .c (.v (.int .i64 13))] ⟨⟨_, _, _, _, _, _, rfl, rfl, fits rfl, rfl⟩, rfl, trivial⟩ trivial
  · refine VS.skip ?_
    refine ES.seq ?_
    refine VS.seq ?_
    refine VS.seq ?_
    refine VS.region ?_
    refine X.lk ?_
    refine X.lenT ?_
    refine X.lk ?_
    refine X.nil ?_
    refine ES.seq ?_
    refine VS.block ?_
    refine VS.loop (fun (x1 : Int) => (⟨[(1, .w (.c (.v (.int .i64 i1)))), (2, .w (.c (.v (.int .i64 align1)))), (3, .w (.c (.v (.tree (off1.map iRow))))), (4, .w (.c (.ptr 0 0 0))), (8, .w (.c (.ptr 1 0 0))), (10, .w (.c (.v (.tree (((atD p1.Funcs i1).Slots).map row_ASlot))))), (26, .w (.c (.v (.tree (((atD p1.Funcs i1).Slots).map row_ASlot))))), (27, .w (.c (.v (.int .i64 (((atD p1.Funcs i1).Slots).length : Int))))), (28, .w (.c (.v (.int .i64 x1))))], [some (.bx 27 ((row_AProgram p1).map .v)), some (.bx 48 [.v (.int .i64 0), .v (.int .i64 0), .v (.tree (([] : List Int).map iRow))])]⟩ : St)) (j0 := 0) (St.le_sub ⟨rfl, rfl, rfl, rfl, rfl, rfl, rfl, rfl, rfl, trivial⟩ ⟨rfl, rfl, trivial⟩ rfl) ?_
    rintro n1 again1 ih_again1 x1
    refine VS.seq ?_
    refine VS.region ?_
    refine X.lk ?_
    refine X.nil ?_
    refine ES.seq ?_
    refine VS.seq ?_
    refine VS.cond (fun h3 => ?_) (fun h3 => ?_)
    · refine VS.skip ?_
      refine ES.seq ?_
      refine VS.seq ?_
      refine VS.block ?_
      refine VS.seq ?_
      refine VS.region ?_
      refine X.lk ?_
      refine X.idxT (fun h4 => ?_)
      refine X.lk ?_
      refine X.alloc 2 ?_
      refine X.lk ?_
      refine X.st ?_
      refine X.nil ?_
      refine ES.seq ?_
      refine VS.seq ?_
      refine VS.drawn ?_
      refine X.lk ?_
      refine X.lk ?_
      refine X.idxT (fun h5 => ?_)
      refine X.lk ?_
      refine X.lk ?_
      refine X.lk ?_
      refine X.build ?_
      refine X.call true [] [] (extent_Inside_ok (⟨(atD off1 x1), (atD ((atD p1.Funcs i1).Slots) x1).Size⟩ : AInterval) 2147483647) (fun x2 => ?_)
      refine X.lk ?_
      refine X.nilD ?_ (by kernel_rfl)
      refine ES.seq ?_
      refine VS.cond (fun h6 => ?_) (fun h6 => ?_)
      · refine VS.seq ?_
        refine VS.region ?_
        refine X.build ?_
        refine X.st ?_
        refine X.lk ?_
        refine X.nil ?_
        refine ES.seq ?_
        refine VS.ret ?_
        refine ES.blkR ?_
        refine ES.thnR ?_
        refine ES.thnR ?_
        refine ES.blkR ?_
        refine ES.thnR ?_
        refine ES.ret ?_
        exact Ret.clo [.agg ((row_ALayout (⟨0, 0, ([] : List Int)⟩ : ALayout)).map .v), .c (.v (.int .i64 13))] ⟨⟨_, _, _, _, _, _, rfl, rfl, fits rfl, rfl⟩, rfl, trivial⟩ trivial
      · refine VS.skip ?_
        refine ES.blkN ?_
        refine ES.seq ?_
        refine VS.region ?_
        refine X.ck fun h7 => ?_
        refine X.lk ?_
        refine X.nil ?_
        exact ES.go ih_again1 (x1 + 1) (St.le_sub ⟨rfl, rfl, rfl, rfl, rfl, rfl, rfl, rfl, rfl, trivial⟩ ⟨rfl, rfl, trivial⟩ rfl)
    · refine VS.exit ?_
      refine ES.thnE ?_
      refine ES.thnE ?_
      refine ES.blkE ?_
      refine ES.seq ?_
      refine VS.seq ?_
      refine VS.region ?_
      refine X.lk ?_
      refine X.lk ?_
      refine X.call true [] [] (pack_Args_ok p1 i1) (fun x3 => ?_)
      refine X.lk ?_
      refine X.call true [] [] (slices_Clone___int_int__ok off1) (fun x4 => ?_)
      refine X.build ?_
      refine X.alloc 2 ?_
      refine X.st ?_
      refine X.nil ?_
      refine ES.seq ?_
      refine VS.seq ?_
      refine VS.drawn ?_
      refine X.lk ?_
      refine X.lk ?_
      refine X.lk ?_
      refine X.lk ?_
      refine X.lk ?_
      refine X.call true [] [] (colour_End_ok ((atD p1.Funcs i1).Slots) off1) (fun x5 => ?_)
      refine X.max3 ?_
      refine X.lk ?_
      refine X.call true [] [] (pack_sized_ok (⟨x3, 0, x4⟩ : ALayout) (max (max x3 0) x5) align1) (fun x6 => ?_)
      refine X.lk ?_
      refine X.lk ?_
      refine X.st ?_
      refine X.lk ?_
      refine X.nilD ?_ (by kernel_rfl)
      refine ES.seq ?_
      refine VS.ret ?_
      refine ES.ret ?_
      exact Ret.clo [.agg ((row_ALayout x6.1).map .v), .c (.v (.int .i64 x6.2))] ⟨⟨_, _, _, _, _, _, rfl, rfl, fits rfl, rfl⟩, rfl, trivial⟩ trivial
set_option maxHeartbeats 4000000 in
theorem r24_Same_ok (a1 : ALayout) (b1 : ALayout) : ∀ r : Bool, r24_Same a1 b1 r → FCalls Try.prog 29 [] [.agg ((row_ALayout a1).map .v), .agg ((row_ALayout b1).map .v)] (.w (.c (.v (.bool r)))) [] [] := by
  refine fnS 45 ?_
  unfold r24_Same
  refine VS.seq ?_
  refine VS.region ?_
  refine X.box 0 ?_
  refine X.box 1 ?_
  refine X.lk ?_
  refine X.nil ?_
  refine ES.seq ?_
  refine VS.seq ?_
  refine VS.seq ?_
  refine VS.region ?_
  refine X.lk ?_
  refine X.lk ?_
  refine X.lk ?_
  refine X.lk ?_
  refine X.lk ?_
  refine X.lk ?_
  refine X.bif (b := (!decide (a1.Args = b1.Args))) (fun h1 => ?_) (fun h1 => ?_)
  · refine X.gN h1 ?_
    refine X.gN h1 ?_
    refine X.gN h1 ?_
    refine X.gN h1 ?_
    refine X.gN h1 ?_
    refine X.pT h1 ?_
    refine X.lk ?_
    refine X.gN rfl ?_
    refine X.gN rfl ?_
    refine X.gN rfl ?_
    refine X.gN rfl ?_
    refine X.gN rfl ?_
    refine X.gN rfl ?_
    refine X.gN rfl ?_
    refine X.pT rfl ?_
    refine X.nil ?_
    refine ES.seq ?_
    refine VS.condT rfl ?_
    refine VS.seq ?_
    refine VS.region ?_
    refine X.lk ?_
    refine X.nil ?_
    refine ES.seq ?_
    refine VS.ret ?_
    refine ES.thnR ?_
    refine ES.ret ?_
    exact Ret.clo [.c (.v (.bool false))] ⟨rfl, trivial⟩ trivial
  · refine X.gY h1 ?_
    refine X.lk ?_
    refine X.gY h1 ?_
    refine X.lk ?_
    refine X.gY h1 ?_
    refine X.lk ?_
    refine X.gY h1 ?_
    refine X.lk ?_
    refine X.gY h1 ?_
    refine X.lk ?_
    refine X.pF h1 ?_
    refine X.lk ?_
    refine X.bif (b := (!decide (a1.Size = b1.Size))) (fun h2 => ?_) (fun h2 => ?_)
    · refine X.gN h2 ?_
      refine X.gN h2 ?_
      refine X.gN h2 ?_
      refine X.gN h2 ?_
      refine X.gN h2 ?_
      refine X.gN h2 ?_
      refine X.gN h2 ?_
      refine X.pT h2 ?_
      refine X.nil ?_
      refine ES.seq ?_
      refine VS.condT rfl ?_
      refine VS.seq ?_
      refine VS.region ?_
      refine X.lk ?_
      refine X.nil ?_
      refine ES.seq ?_
      refine VS.ret ?_
      refine ES.thnR ?_
      refine ES.ret ?_
      exact Ret.clo [.c (.v (.bool false))] ⟨rfl, trivial⟩ trivial
    · refine X.gY h2 ?_
      refine X.lk ?_
      refine X.gY h2 ?_
      refine X.lk ?_
      refine X.gY h2 ?_
      refine X.lenT ?_
      refine X.gY h2 ?_
      refine X.lk ?_
      refine X.gY h2 ?_
      refine X.lk ?_
      refine X.gY h2 ?_
      refine X.lenT ?_
      refine X.gY h2 ?_
      refine X.lk ?_
      refine X.pF h2 ?_
      refine X.nil ?_
      refine ES.seq ?_
      refine VS.cond (fun h3 => ?_) (fun h3 => ?_)
      · refine VS.seq ?_
        refine VS.region ?_
        refine X.lk ?_
        refine X.nil ?_
        refine ES.seq ?_
        refine VS.ret ?_
        refine ES.thnR ?_
        refine ES.ret ?_
        exact Ret.clo [.c (.v (.bool false))] ⟨rfl, trivial⟩ trivial
      · refine VS.skip ?_
        refine ES.seq ?_
        refine VS.seq ?_
        refine VS.seq ?_
        refine VS.region ?_
        refine X.lk ?_
        refine X.nil ?_
        refine ES.seq ?_
        refine VS.block ?_
        refine VS.loop (fun (i1 : Int) => (⟨[(2, .w (.c (.ptr 0 0 0))), (3, .w (.c (.ptr 1 0 0))), (5, .w (.c (.v (.int .i64 i1))))], [some (.bx 48 ((row_ALayout a1).map .v)), some (.bx 48 ((row_ALayout b1).map .v))]⟩ : St)) (j0 := 0) (St.le_sub ⟨rfl, rfl, rfl, trivial⟩ ⟨rfl, rfl, trivial⟩ rfl) ?_
        rintro n1 again1 ih_again1 i1
        refine VS.seq ?_
        refine VS.seq ?_
        refine VS.region ?_
        refine X.lk ?_
        refine X.lk ?_
        refine X.lk ?_
        refine X.lenT ?_
        refine X.lk ?_
        refine X.nil ?_
        refine ES.seq ?_
        refine VS.cond (fun h4 => ?_) (fun h4 => ?_)
        · refine VS.skip ?_
          refine ES.seq ?_
          refine VS.seq ?_
          refine VS.block ?_
          refine VS.seq ?_
          refine VS.drawn ?_
          refine X.lk ?_
          refine X.lk ?_
          refine X.lk ?_
          refine X.idxT (fun h5 => ?_)
          refine X.lk ?_
          refine X.lk ?_
          refine X.lk ?_
          refine X.lk ?_
          refine X.idxT (fun h6 => ?_)
          refine X.lk ?_
          refine X.lk ?_
          refine X.nilD ?_ (by kernel_rfl)
          refine ES.seq ?_
          refine VS.cond (fun h7 => ?_) (fun h7 => ?_)
          · refine VS.seq ?_
            refine VS.region ?_
            refine X.lk ?_
            refine X.nil ?_
            refine ES.seq ?_
            refine VS.ret ?_
            refine ES.blkR ?_
            refine ES.thnR ?_
            refine ES.thnR ?_
            refine ES.blkR ?_
            refine ES.thnR ?_
            refine ES.ret ?_
            exact Ret.clo [.c (.v (.bool false))] ⟨rfl, trivial⟩ trivial
          · refine VS.skip ?_
            refine ES.blkN ?_
            refine ES.seq ?_
            refine VS.region ?_
            refine X.lk ?_
            refine X.ck fun h8 => ?_
            refine X.lk ?_
            refine X.nil ?_
            exact ES.go ih_again1 (i1 + 1) (St.le_sub ⟨rfl, rfl, rfl, trivial⟩ ⟨rfl, rfl, trivial⟩ rfl)
        · refine VS.exit ?_
          refine ES.thnE ?_
          refine ES.thnE ?_
          refine ES.blkE ?_
          refine ES.seq ?_
          refine VS.seq ?_
          refine VS.region ?_
          refine X.lk ?_
          refine X.nil ?_
          refine ES.seq ?_
          refine VS.ret ?_
          refine ES.ret ?_
          exact Ret.clo [.c (.v (.bool true))] ⟨rfl, trivial⟩ trivial
set_option maxHeartbeats 4000000 in
theorem pack_Padding_ok (p1 : AProgram) (i1 : Int) (l1 : ALayout) : ∀ r : Int, pack_Padding p1 i1 l1 r → FCalls Try.prog 32 [] [.agg ((row_AProgram p1).map .v), .c (.v (.int .i64 i1)), .agg ((row_ALayout l1).map .v)] (.w (.c (.v (.int .i64 r)))) [] [] := by
  refine fnS 73 ?_
  unfold pack_Padding
  refine VS.seq ?_
  refine VS.region ?_
  refine X.box 0 ?_
  refine X.box 1 ?_
  refine X.lk ?_
  refine X.nil ?_
  refine ES.seq ?_
  refine VS.seq ?_
  refine VS.seq ?_
  refine VS.region ?_
  refine X.lk ?_
  refine X.lk ?_
  refine X.lk ?_
  refine X.lk ?_
  refine X.bif (b := (decide (l1.Size < 0))) (fun h1 => ?_) (fun h1 => ?_)
  · refine X.gN h1 ?_
    refine X.gN h1 ?_
    refine X.gN h1 ?_
    refine X.pT h1 ?_
    refine X.nil ?_
    refine ES.seq ?_
    refine VS.condT rfl ?_
    refine VS.seq ?_
    refine VS.region ?_
    refine X.lk ?_
    refine X.nil ?_
    refine ES.seq ?_
    refine VS.ret ?_
    refine ES.thnR ?_
    refine ES.ret ?_
    exact Ret.clo [.c (.v (.int .i64 0))] ⟨rfl, trivial⟩ trivial
  · refine X.gY h1 ?_
    refine X.lk ?_
    refine X.gY h1 ?_
    refine X.lk ?_
    refine X.gY h1 ?_
    refine X.lk ?_
    refine X.pF h1 ?_
    refine X.nil ?_
    refine ES.seq ?_
    refine VS.cond (fun h2 => ?_) (fun h2 => ?_)
    · refine VS.seq ?_
      refine VS.region ?_
      refine X.lk ?_
      refine X.nil ?_
      refine ES.seq ?_
      refine VS.ret ?_
      refine ES.thnR ?_
      refine ES.ret ?_
      exact Ret.clo [.c (.v (.int .i64 0))] ⟨rfl, trivial⟩ trivial
    · refine VS.skip ?_
      refine ES.seq ?_
      refine VS.seq ?_
      refine VS.region ?_
      refine X.lk ?_
      refine X.lk ?_
      refine X.make 2 (α := Bool) oRow (fun h3 => ?_)
      refine X.lk ?_
      refine X.nil ?_
      refine ES.seq ?_
      refine VS.seq ?_
      refine VS.seq ?_
      refine VS.region ?_
      refine X.lk ?_
      refine X.lk ?_
      refine X.lk ?_
      refine X.idxT (fun h4 => ?_)
      refine X.lk ?_
      refine X.lk ?_
      refine X.lenT ?_
      refine X.lk ?_
      refine X.nil ?_
      refine ES.seq ?_
      refine VS.block ?_
      refine VS.loop (fun jj : Int × List Bool => (⟨[(5, .w (.c (.ptr 0 0 0))), (7, .w (.c (.mref 1))), (29, .w (.c (.v (.tree (((atD p1.Funcs i1).Slots).map row_ASlot))))), (30, .w (.c (.v (.int .i64 (((atD p1.Funcs i1).Slots).length : Int))))), (31, .w (.c (.v (.int .i64 jj.1))))], [some (.bx 48 ((row_ALayout l1).map .v)), some (.sl 4 1 false (jj.2.map oRow))]⟩ : St)) (j0 := (0, (repD l1.Size : List Bool))) ((St.le_drop _ 0 (Nat.le_of_ble_eq_true rfl)).trans ((St.le_mvB _ 1 0 rfl rfl rfl rfl).trans ((St.le_mvB _ 2 1 rfl rfl rfl rfl).trans (St.le_sub ⟨rfl, rfl, rfl, rfl, rfl, trivial⟩ ⟨rfl, rfl, trivial⟩ rfl)))) ?_
      rintro n1 again1 ih_again1 ⟨x1, taken1⟩
      refine VS.seq ?_
      refine VS.region ?_
      refine X.lk ?_
      refine X.nil ?_
      refine ES.seq ?_
      refine VS.seq ?_
      refine VS.cond (fun h5 => ?_) (fun h5 => ?_)
      · refine VS.skip ?_
        refine ES.seq ?_
        refine VS.seq ?_
        refine VS.block ?_
        refine VS.seq ?_
        refine VS.region ?_
        refine X.lk ?_
        refine X.idxT (fun h6 => ?_)
        refine X.lk ?_
        refine X.alloc 2 ?_
        refine X.lk ?_
        refine X.st ?_
        refine X.nil ?_
        refine ES.seq ?_
        refine VS.seq ?_
        refine VS.region ?_
        refine X.lk ?_
        refine X.lk ?_
        refine X.lk ?_
        refine X.idxT (fun h7 => ?_)
        refine X.lk ?_
        refine X.lk ?_
        refine X.nil ?_
        refine ES.seq ?_
        refine VS.block ?_
        refine VS.loop (fun jj : Int × List Bool => (⟨[(5, .w (.c (.ptr 0 0 0))), (7, .w (.c (.mref 1))), (8, .w (.c (.v (.int .i64 x1)))), (9, .w (.c (.ptr 2 0 0))), (10, .w (.c (.v (.int .i64 jj.1)))), (29, .w (.c (.v (.tree (((atD p1.Funcs i1).Slots).map row_ASlot))))), (30, .w (.c (.v (.int .i64 (((atD p1.Funcs i1).Slots).length : Int))))), (31, .w (.c (.v (.int .i64 x1))))], [some (.bx 48 ((row_ALayout l1).map .v)), some (.sl 4 1 false (jj.2.map oRow)), some (.bx 57 ((row_ASlot (atD ((atD p1.Funcs i1).Slots) x1)).map .v))]⟩ : St)) (j0 := ((atD l1.Off x1), taken1)) (St.le_sub ⟨rfl, rfl, rfl, rfl, rfl, rfl, rfl, rfl, trivial⟩ ⟨rfl, rfl, rfl, trivial⟩ rfl) ?_
        rintro n2 again2 ih_again2 ⟨b1, taken2⟩
        refine VS.seq ?_
        refine VS.seq ?_
        refine VS.drawn ?_
        refine X.lk ?_
        refine X.lk ?_
        refine X.lk ?_
        refine X.lk ?_
        refine X.idxT (fun h8 => ?_)
        refine X.lk ?_
        refine X.lk ?_
        refine X.lk ?_
        refine X.ck fun h9 => ?_
        refine X.lk ?_
        refine X.nilD ?_ (by kernel_rfl)
        refine ES.seq ?_
        refine VS.cond (fun h10 => ?_) (fun h10 => ?_)
        · refine VS.skip ?_
          refine ES.seq ?_
          refine VS.seq ?_
          refine VS.block ?_
          refine VS.region ?_
          refine X.lk ?_
          refine X.lk ?_
          refine X.idxM (l := taken2) (i := b1) (fun h11 => ?_)
          refine X.set (i := b1) true h11 ?_
          refine X.nil ?_
          refine ES.blkN ?_
          refine ES.seq ?_
          refine VS.region ?_
          refine X.lk ?_
          refine X.ck fun h12 => ?_
          refine X.lk ?_
          refine X.nil ?_
          exact ES.go ih_again2 ((b1 + 1), (setD taken2 b1 true)) (St.le_sub ⟨rfl, rfl, rfl, rfl, rfl, rfl, rfl, rfl, trivial⟩ ⟨rfl, rfl, rfl, trivial⟩ rfl)
        · refine VS.exit ?_
          refine ES.thnE ?_
          refine ES.thnE ?_
          refine ES.blkE ?_
          refine ES.blkN ?_
          refine ES.seq ?_
          refine VS.region ?_
          refine X.ck fun h13 => ?_
          refine X.lk ?_
          refine X.nil ?_
          exact ES.go ih_again1 ((x1 + 1), taken2) (St.le_sub ⟨rfl, rfl, rfl, rfl, rfl, trivial⟩ ⟨rfl, rfl, trivial⟩ rfl)
      · refine VS.exit ?_
        refine ES.thnE ?_
        refine ES.thnE ?_
        refine ES.blkE ?_
        refine ES.seq ?_
        refine VS.seq ?_
        refine VS.region ?_
        refine X.lk ?_
        refine X.nil ?_
        refine ES.seq ?_
        refine VS.seq ?_
        refine VS.seq ?_
        refine VS.region ?_
        refine X.lk ?_
        refine X.lk ?_
        refine X.lk ?_
        refine X.nil ?_
        refine ES.seq ?_
        refine VS.block ?_
        refine VS.loop (fun jj : Int × Int => (⟨[(5, .w (.c (.ptr 0 0 0))), (7, .w (.c (.mref 1))), (11, .w (.c (.v (.int .i64 jj.1)))), (12, .w (.c (.v (.int .i64 jj.2))))], [some (.bx 48 ((row_ALayout l1).map .v)), some (.sl 4 1 false (taken1.map oRow))]⟩ : St)) (j0 := (0, l1.Args)) (St.le_sub ⟨rfl, rfl, rfl, rfl, trivial⟩ ⟨rfl, rfl, trivial⟩ rfl) ?_
        rintro n4 again3 ih_again3 ⟨n3, b2⟩
        refine VS.seq ?_
        refine VS.seq ?_
        refine VS.region ?_
        refine X.lk ?_
        refine X.lk ?_
        refine X.lk ?_
        refine X.lk ?_
        refine X.nil ?_
        refine ES.seq ?_
        refine VS.cond (fun h14 => ?_) (fun h14 => ?_)
        · refine VS.skip ?_
          refine ES.seq ?_
          refine VS.seq ?_
          refine VS.block ?_
          refine VS.seq ?_
          refine VS.region ?_
          refine X.lk ?_
          refine X.lk ?_
          refine X.idxM (l := taken1) (i := b2) (fun h15 => ?_)
          refine X.ld (i := b2) h15 ?_
          refine X.lk ?_
          refine X.nil ?_
          refine ES.seq ?_
          refine VS.cond (fun h16 => ?_) (fun h16 => ?_)
          · refine VS.region ?_
            refine X.lk ?_
            refine X.ck fun h17 => ?_
            refine X.lk ?_
            refine X.nil ?_
            refine ES.blkN ?_
            refine ES.seq ?_
            refine VS.region ?_
            refine X.lk ?_
            refine X.ck fun h18 => ?_
            refine X.lk ?_
            refine X.nil ?_
            exact ES.go ih_again3 ((n3 + 1), (b2 + 1)) (St.le_sub ⟨rfl, rfl, rfl, rfl, trivial⟩ ⟨rfl, rfl, trivial⟩ rfl)
          · refine VS.skip ?_
            refine ES.blkN ?_
            refine ES.seq ?_
            refine VS.region ?_
            refine X.lk ?_
            refine X.ck fun h19 => ?_
            refine X.lk ?_
            refine X.nil ?_
            exact ES.go ih_again3 (n3, (b2 + 1)) (St.le_sub ⟨rfl, rfl, rfl, rfl, trivial⟩ ⟨rfl, rfl, trivial⟩ rfl)
        · refine VS.exit ?_
          refine ES.thnE ?_
          refine ES.thnE ?_
          refine ES.blkE ?_
          refine ES.seq ?_
          refine VS.seq ?_
          refine VS.region ?_
          refine X.lk ?_
          refine X.lk ?_
          refine X.nil ?_
          refine ES.seq ?_
          refine VS.ret ?_
          refine ES.ret ?_
          exact Ret.clo [.c (.v (.int .i64 n3))] ⟨rfl, trivial⟩ trivial
set_option maxHeartbeats 4000000 in
theorem r24_Padding_ok (p1 : AProgram) (i1 : Int) (l1 : ALayout) : ∀ r : Int, r24_Padding p1 i1 l1 r → FCalls Try.prog 42 [] [.agg ((row_AProgram p1).map .v), .c (.v (.int .i64 i1)), .agg ((row_ALayout l1).map .v)] (.w (.c (.v (.int .i64 r)))) [] [] := by
  refine fnS 88 ?_
  unfold r24_Padding
  refine VS.seq ?_
  refine VS.region ?_
  refine X.box 0 ?_
  refine X.box 1 ?_
  refine X.lk ?_
  refine X.nil ?_
  refine ES.seq ?_
  refine VS.seq ?_
  refine VS.seq ?_
  refine VS.region ?_
  refine X.lk ?_
  refine X.lk ?_
  refine X.lk ?_
  refine X.lk ?_
  refine X.bif (b := (decide (l1.Size < 0))) (fun h1 => ?_) (fun h1 => ?_)
  · refine X.gN h1 ?_
    refine X.gN h1 ?_
    refine X.gN h1 ?_
    refine X.pT h1 ?_
    refine X.nil ?_
    refine ES.seq ?_
    refine VS.condT rfl ?_
    refine VS.seq ?_
    refine VS.region ?_
    refine X.lk ?_
    refine X.nil ?_
    refine ES.seq ?_
    refine VS.ret ?_
    refine ES.thnR ?_
    refine ES.ret ?_
    exact Ret.clo [.c (.v (.int .i64 0))] ⟨rfl, trivial⟩ trivial
  · refine X.gY h1 ?_
    refine X.lk ?_
    refine X.gY h1 ?_
    refine X.lk ?_
    refine X.gY h1 ?_
    refine X.lk ?_
    refine X.pF h1 ?_
    refine X.nil ?_
    refine ES.seq ?_
    refine VS.cond (fun h2 => ?_) (fun h2 => ?_)
    · refine VS.seq ?_
      refine VS.region ?_
      refine X.lk ?_
      refine X.nil ?_
      refine ES.seq ?_
      refine VS.ret ?_
      refine ES.thnR ?_
      refine ES.ret ?_
      exact Ret.clo [.c (.v (.int .i64 0))] ⟨rfl, trivial⟩ trivial
    · refine VS.skip ?_
      refine ES.seq ?_
      refine VS.seq ?_
      refine VS.region ?_
      refine X.lk ?_
      refine X.lk ?_
      refine X.lk ?_
      refine X.idxT (fun h3 => ?_)
      refine X.lk ?_
      refine X.lk ?_
      refine X.lk ?_
      refine X.nil ?_
      refine ES.seq ?_
      refine VS.seq ?_
      refine VS.region ?_
      refine X.lk ?_
      refine X.lk ?_
      refine X.make 2 (α := Bool) oRow (fun h4 => ?_)
      refine X.lk ?_
      refine X.nil ?_
      refine ES.seq ?_
      refine VS.join (fun (taken1 : List Bool) => (⟨[(5, .w (.c (.ptr 0 0 0))), (8, .w (.c (.mref 1)))], [some (.bx 48 ((row_ALayout l1).map .v)), some (.sl 4 1 false (taken1.map oRow))]⟩ : St)) ?_ ?_
      · rintro taken1
        refine VS.seq ?_
        refine VS.region ?_
        refine X.lk ?_
        refine X.nil ?_
        refine ES.seq ?_
        refine VS.seq ?_
        refine VS.seq ?_
        refine VS.region ?_
        refine X.lk ?_
        refine X.lk ?_
        refine X.max ?_
        refine X.lk ?_
        refine X.nil ?_
        refine ES.seq ?_
        refine VS.block ?_
        refine VS.loop (fun jj : Int × Int => (⟨[(5, .w (.c (.ptr 0 0 0))), (8, .w (.c (.mref 1))), (12, .w (.c (.v (.int .i64 jj.1)))), (13, .w (.c (.v (.int .i64 jj.2))))], [some (.bx 48 ((row_ALayout l1).map .v)), some (.sl 4 1 false (taken1.map oRow))]⟩ : St)) (j0 := (0, (max l1.Args 0))) (St.le_sub ⟨rfl, rfl, rfl, rfl, trivial⟩ ⟨rfl, rfl, trivial⟩ rfl) ?_
        rintro n2 again1 ih_again1 ⟨n1, at1⟩
        refine VS.seq ?_
        refine VS.seq ?_
        refine VS.region ?_
        refine X.lk ?_
        refine X.lk ?_
        refine X.lk ?_
        refine X.lk ?_
        refine X.nil ?_
        refine ES.seq ?_
        refine VS.cond (fun h5 => ?_) (fun h5 => ?_)
        · refine VS.skip ?_
          refine ES.seq ?_
          refine VS.seq ?_
          refine VS.block ?_
          refine VS.seq ?_
          refine VS.region ?_
          refine X.lk ?_
          refine X.lk ?_
          refine X.idxM (l := taken1) (i := at1) (fun h6 => ?_)
          refine X.ld (i := at1) h6 ?_
          refine X.lk ?_
          refine X.nil ?_
          refine ES.seq ?_
          refine VS.cond (fun h7 => ?_) (fun h7 => ?_)
          · refine VS.region ?_
            refine X.lk ?_
            refine X.ck fun h8 => ?_
            refine X.lk ?_
            refine X.nil ?_
            refine ES.blkN ?_
            refine ES.seq ?_
            refine VS.region ?_
            refine X.lk ?_
            refine X.ck fun h9 => ?_
            refine X.lk ?_
            refine X.nil ?_
            exact ES.go ih_again1 ((n1 + 1), (at1 + 1)) (St.le_sub ⟨rfl, rfl, rfl, rfl, trivial⟩ ⟨rfl, rfl, trivial⟩ rfl)
          · refine VS.skip ?_
            refine ES.blkN ?_
            refine ES.seq ?_
            refine VS.region ?_
            refine X.lk ?_
            refine X.ck fun h10 => ?_
            refine X.lk ?_
            refine X.nil ?_
            exact ES.go ih_again1 (n1, (at1 + 1)) (St.le_sub ⟨rfl, rfl, rfl, rfl, trivial⟩ ⟨rfl, rfl, trivial⟩ rfl)
        · refine VS.exit ?_
          refine ES.thnE ?_
          refine ES.thnE ?_
          refine ES.blkE ?_
          refine ES.seq ?_
          refine VS.seq ?_
          refine VS.region ?_
          refine X.lk ?_
          refine X.lk ?_
          refine X.nil ?_
          refine ES.seq ?_
          refine VS.ret ?_
          refine ES.ret ?_
          exact Ret.clo [.c (.v (.int .i64 n1))] ⟨rfl, trivial⟩ trivial
      · intro k1 ih_k1
        refine VS.seq ?_
        refine VS.region ?_
        refine X.lk ?_
        refine X.nil ?_
        refine ES.seq ?_
        refine VS.block ?_
        refine VS.loop (fun jj : Int × List Bool => (⟨[(5, .w (.c (.ptr 0 0 0))), (7, .w (.c (.v (.tree (((atD p1.Funcs i1).Slots).map row_ASlot))))), (8, .w (.c (.mref 1))), (9, .w (.c (.v (.int .i64 jj.1))))], [some (.bx 48 ((row_ALayout l1).map .v)), some (.sl 4 1 false (jj.2.map oRow))]⟩ : St)) (j0 := (0, (repD l1.Size : List Bool))) ((St.le_drop _ 0 (Nat.le_of_ble_eq_true rfl)).trans ((St.le_mvB _ 1 0 rfl rfl rfl rfl).trans ((St.le_mvB _ 2 1 rfl rfl rfl rfl).trans (St.le_sub ⟨rfl, rfl, rfl, rfl, trivial⟩ ⟨rfl, rfl, trivial⟩ rfl)))) ?_
        rintro n3 again2 ih_again2 ⟨k2, taken2⟩
        refine VS.seq ?_
        refine VS.seq ?_
        refine VS.region ?_
        refine X.lk ?_
        refine X.lk ?_
        refine X.lenT ?_
        refine X.lk ?_
        refine X.lk ?_
        refine X.bif (b := (decide (k2 < (((atD p1.Funcs i1).Slots).length : Int)))) (fun h11 => ?_) (fun h11 => ?_)
        · refine X.gY h11 ?_
          refine X.lk ?_
          refine X.gY h11 ?_
          refine X.lk ?_
          refine X.gY h11 ?_
          refine X.lk ?_
          refine X.gY h11 ?_
          refine X.lenT ?_
          refine X.gY h11 ?_
          refine X.lk ?_
          refine X.pT h11 ?_
          refine X.nil ?_
          refine ES.seq ?_
          refine VS.cond (fun h12 => ?_) (fun h12 => ?_)
          · refine VS.skip ?_
            refine ES.seq ?_
            refine VS.seq ?_
            refine VS.block ?_
            refine VS.seq ?_
            refine VS.region ?_
            refine X.lk ?_
            refine X.nil ?_
            refine ES.seq ?_
            refine VS.block ?_
            refine VS.loop (fun jj : Int × List Bool => (⟨[(5, .w (.c (.ptr 0 0 0))), (7, .w (.c (.v (.tree (((atD p1.Funcs i1).Slots).map row_ASlot))))), (8, .w (.c (.mref 1))), (9, .w (.c (.v (.int .i64 k2)))), (10, .w (.c (.v (.int .i64 jj.1)))), (36, .w (.c (.v (.int .i64 k2)))), (37, .w (.c (.ptr 0 0 2))), (38, .w (.c (.v (.tree (l1.Off.map iRow))))), (39, .w (.c (.v (.int .i64 (l1.Off.length : Int))))), (40, .w (.c (.v (.bool (decide (k2 < (l1.Off.length : Int)))))))], [some (.bx 48 ((row_ALayout l1).map .v)), some (.sl 4 1 false (jj.2.map oRow))]⟩ : St)) (j0 := (0, taken2)) (St.le_sub ⟨rfl, rfl, rfl, rfl, rfl, rfl, rfl, rfl, rfl, rfl, trivial⟩ ⟨rfl, rfl, trivial⟩ rfl) ?_
            rintro n5 again3 ih_again3 ⟨n4, taken3⟩
            refine VS.seq ?_
            refine VS.seq ?_
            refine VS.region ?_
            refine X.lk ?_
            refine X.lk ?_
            refine X.lk ?_
            refine X.idxT (fun h13 => ?_)
            refine X.lk ?_
            refine X.lk ?_
            refine X.lk ?_
            refine X.nil ?_
            refine ES.seq ?_
            refine VS.cond (fun h14 => ?_) (fun h14 => ?_)
            · refine VS.skip ?_
              refine ES.seq ?_
              refine VS.seq ?_
              refine VS.block ?_
              refine VS.seq ?_
              refine VS.region ?_
              refine X.lk ?_
              refine X.lk ?_
              refine X.lk ?_
              refine X.idxT (fun h15 => ?_)
              refine X.lk ?_
              refine X.lk ?_
              refine X.ck fun h16 => ?_
              refine X.lk ?_
              refine X.nil ?_
              refine ES.seq ?_
              refine VS.seq ?_
              refine VS.region ?_
              refine X.lk ?_
              refine X.lk ?_
              refine X.lk ?_
              refine X.bif (b := (decide (0 ≤ ((atD l1.Off k2) + n4)))) (fun h17 => ?_) (fun h17 => ?_)
              · refine X.gY h17 ?_
                refine X.lk ?_
                refine X.gY h17 ?_
                refine X.lk ?_
                refine X.gY h17 ?_
                refine X.lk ?_
                refine X.gY h17 ?_
                refine X.lk ?_
                refine X.pT h17 ?_
                refine X.nil ?_
                refine ES.seq ?_
                refine VS.cond (fun h18 => ?_) (fun h18 => ?_)
                · refine VS.region ?_
                  refine X.lk ?_
                  refine X.lk ?_
                  refine X.idxM (l := taken3) (i := ((atD l1.Off k2) + n4)) (fun h19 => ?_)
                  refine X.set (i := ((atD l1.Off k2) + n4)) true h19 ?_
                  refine X.nil ?_
                  refine ES.blkN ?_
                  refine ES.seq ?_
                  refine VS.region ?_
                  refine X.lk ?_
                  refine X.ck fun h20 => ?_
                  refine X.lk ?_
                  refine X.nil ?_
                  exact ES.go ih_again3 ((n4 + 1), (setD taken3 ((atD l1.Off k2) + n4) true)) (St.le_sub ⟨rfl, rfl, rfl, rfl, rfl, rfl, rfl, rfl, rfl, rfl, trivial⟩ ⟨rfl, rfl, trivial⟩ rfl)
                · refine VS.skip ?_
                  refine ES.blkN ?_
                  refine ES.seq ?_
                  refine VS.region ?_
                  refine X.lk ?_
                  refine X.ck fun h21 => ?_
                  refine X.lk ?_
                  refine X.nil ?_
                  exact ES.go ih_again3 ((n4 + 1), taken3) (St.le_sub ⟨rfl, rfl, rfl, rfl, rfl, rfl, rfl, rfl, rfl, rfl, trivial⟩ ⟨rfl, rfl, trivial⟩ rfl)
              · refine X.gN h17 ?_
                refine X.gN h17 ?_
                refine X.gN h17 ?_
                refine X.gN h17 ?_
                refine X.pF h17 ?_
                refine X.nil ?_
                refine ES.seq ?_
                refine VS.condF rfl ?_
                refine VS.skip ?_
                refine ES.blkN ?_
                refine ES.seq ?_
                refine VS.region ?_
                refine X.lk ?_
                refine X.ck fun h22 => ?_
                refine X.lk ?_
                refine X.nil ?_
                exact ES.go ih_again3 ((n4 + 1), taken3) (St.le_sub ⟨rfl, rfl, rfl, rfl, rfl, rfl, rfl, rfl, rfl, rfl, trivial⟩ ⟨rfl, rfl, trivial⟩ rfl)
            · refine VS.exit ?_
              refine ES.thnE ?_
              refine ES.thnE ?_
              refine ES.blkE ?_
              refine ES.blkN ?_
              refine ES.seq ?_
              refine VS.region ?_
              refine X.lk ?_
              refine X.ck fun h23 => ?_
              refine X.lk ?_
              refine X.nil ?_
              exact ES.go ih_again2 ((k2 + 1), taken3) (St.le_sub ⟨rfl, rfl, rfl, rfl, trivial⟩ ⟨rfl, rfl, trivial⟩ rfl)
          · refine VS.exit ?_
            refine ES.thnE ?_
            refine ES.thnE ?_
            refine ES.blkE ?_
            exact ES.jn ih_k1 taken2 (St.le_sub ⟨rfl, rfl, trivial⟩ ⟨rfl, rfl, trivial⟩ rfl)
        · refine X.gN h11 ?_
          refine X.gN h11 ?_
          refine X.gN h11 ?_
          refine X.gN h11 ?_
          refine X.gN h11 ?_
          refine X.pF h11 ?_
          refine X.nil ?_
          refine ES.seq ?_
          refine VS.condF rfl ?_
          refine VS.exit ?_
          refine ES.thnE ?_
          refine ES.thnE ?_
          refine ES.blkE ?_
          exact ES.jn ih_k1 taken2 (St.le_sub ⟨rfl, rfl, trivial⟩ ⟨rfl, rfl, trivial⟩ rfl)
set_option maxHeartbeats 4000000 in
theorem law24_PackFinish_ok (codes1 : List Int) (raw1 : List Int) : ∀ r : Bool, law24_PackFinish codes1 raw1 r → FCalls Try.prog 11 [] [.c (.v (.tree (codes1.map bRow))), .c (.v (.tree (raw1.map iRow)))] (.w (.c (.v (.bool r)))) [] [] := by
  refine fnS 86 ?_
  unfold law24_PackFinish
  refine VS.seq ?_
  refine VS.region ?_
  refine X.lk ?_
  refine X.nil ?_
  refine ES.seq ?_
  refine VS.seq ?_
  refine VS.seq ?_
  refine VS.region ?_
  refine X.call true [] [] law24_awake_ok (fun x1 => ?_)
  refine X.lk ?_
  refine X.lk ?_
  refine X.bif (b := (!x1)) (fun h1 => ?_) (fun h1 => ?_)
  · refine X.gN h1 ?_
    refine X.gN h1 ?_
    refine X.gN h1 ?_
    refine X.pT h1 ?_
    refine X.nil ?_
    refine ES.seq ?_
    refine VS.condT rfl ?_
    refine VS.seq ?_
    refine VS.region ?_
    refine X.lk ?_
    refine X.lenT ?_
    refine X.lk ?_
    refine X.lk ?_
    refine X.nil ?_
    refine ES.seq ?_
    refine VS.ret ?_
    refine ES.thnR ?_
    refine ES.ret ?_
    exact Ret.clo [.c (.v (.bool (decide (600 < (raw1.length : Int)))))] ⟨rfl, trivial⟩ trivial
  · refine X.gY h1 ?_
    refine X.lk ?_
    refine X.gY h1 ?_
    refine X.lenT ?_
    refine X.gY h1 ?_
    refine X.lk ?_
    refine X.pF h1 ?_
    refine X.nil ?_
    refine ES.seq ?_
    refine VS.cond (fun h2 => ?_) (fun h2 => ?_)
    · refine VS.seq ?_
      refine VS.region ?_
      refine X.lk ?_
      refine X.lenT ?_
      refine X.lk ?_
      refine X.lk ?_
      refine X.nil ?_
      refine ES.seq ?_
      refine VS.ret ?_
      refine ES.thnR ?_
      refine ES.ret ?_
      exact Ret.clo [.c (.v (.bool (decide (600 < (raw1.length : Int)))))] ⟨rfl, trivial⟩ trivial
    · refine VS.skip ?_
      refine ES.seq ?_
      refine VS.seq ?_
      refine VS.region ?_
      refine X.lk ?_
      refine X.callE 0 [] (law24_scene_ok codes1) (fun x2 => ?_)
      refine X.lk ?_
      refine X.lk ?_
      refine X.lk ?_
      refine X.lk ?_
      refine X.lk ?_
      refine X.alloc 1 ?_
      refine X.st ?_
      refine X.lk ?_
      refine X.lk ?_
      refine X.lk ?_
      refine X.nil ?_
      refine ES.seq ?_
      refine VS.seq ?_
      refine VS.region ?_
      refine X.lk ?_
      refine X.lk ?_
      refine X.lk ?_
      refine X.lk ?_
      refine X.call true [] [0] (draw_Layout_ok x2.2.2.2 x2.1 x2.2.1 x2.2.2.1) (fun x3 => ?_) (hn := ⟨rfl, trivial⟩)
      refine X.alloc 2 ?_
      refine X.st ?_
      refine X.nil ?_
      refine ES.seq ?_
      refine VS.seq ?_
      refine VS.seq ?_
      refine VS.region ?_
      refine X.lk ?_
      refine X.lk ?_
      refine X.lk ?_
      refine X.bs 3 ([raw1, x3.1.Off, ([] : List Int)] : List (List Int)) (sR iRow) ?_
      refine X.lenM (l := ([raw1, x3.1.Off, ([] : List Int)] : List (List Int))) ?_
      refine X.lk ?_
      refine X.nil ?_
      refine ES.seq ?_
      refine VS.block ?_
      refine VS.loop (fun (x4 : Int) => (⟨[(5, .w (.c (.ptr 0 0 0))), (6, .w (.c (.v (.int .i64 x2.2.1)))), (7, .w (.c (.v (.int .i64 x2.2.2.1)))), (41, .w (.c (.mref 1))), (42, .w (.c (.v (.int .i64 (([raw1, x3.1.Off, ([] : List Int)] : List (List Int)).length : Int))))), (43, .w (.c (.v (.int .i64 x4))))], [some (.bx 27 ((row_AProgram x2.1).map .v)), some (.sl 23 1 false (([raw1, x3.1.Off, ([] : List Int)] : List (List Int)).map (sR iRow)))]⟩ : St)) (j0 := 0) ((St.le_drop _ 0 (Nat.le_of_ble_eq_true rfl)).trans ((St.le_mvB _ 1 0 rfl rfl rfl rfl).trans ((St.le_mvB _ 3 1 rfl rfl rfl rfl).trans (St.le_sub ⟨rfl, rfl, rfl, rfl, rfl, rfl, trivial⟩ ⟨rfl, rfl, trivial⟩ rfl)))) ?_
      rintro n1 again1 ih_again1 x4
      refine VS.seq ?_
      refine VS.region ?_
      refine X.lk ?_
      refine X.nil ?_
      refine ES.seq ?_
      refine VS.seq ?_
      refine VS.cond (fun h3 => ?_) (fun h3 => ?_)
      · refine VS.skip ?_
        refine ES.seq ?_
        refine VS.seq ?_
        refine VS.block ?_
        refine VS.seq ?_
        refine VS.region ?_
        refine X.idxM (l := ([raw1, x3.1.Off, ([] : List Int)] : List (List Int))) (i := x4) (fun h4 => ?_)
        refine X.ld (i := x4) h4 ?_
        refine X.lk ?_
        refine X.nil ?_
        refine ES.seq ?_
        refine VS.seq ?_
        refine VS.region ?_
        refine X.lk ?_
        refine X.lk ?_
        refine X.lk ?_
        refine X.lk ?_
        refine X.call true [] [] (pack_Finish_ok x2.1 x2.2.1 x2.2.2.1 (atD ([raw1, x3.1.Off, ([] : List Int)] : List (List Int)) x4)) (fun x5 => ?_)
        refine X.lk ?_
        refine X.lk ?_
        refine X.lk ?_
        refine X.alloc 2 ?_
        refine X.st ?_
        refine X.lk ?_
        refine X.nil ?_
        refine ES.seq ?_
        refine VS.seq ?_
        refine VS.region ?_
        refine X.lk ?_
        refine X.lk ?_
        refine X.lk ?_
        refine X.lk ?_
        refine X.call true [] [] (r24_Finish_ok x2.1 x2.2.1 x2.2.2.1 (atD ([raw1, x3.1.Off, ([] : List Int)] : List (List Int)) x4)) (fun x6 => ?_)
        refine X.lk ?_
        refine X.lk ?_
        refine X.lk ?_
        refine X.alloc 3 ?_
        refine X.st ?_
        refine X.lk ?_
        refine X.nil ?_
        refine ES.seq ?_
        refine VS.seq ?_
        refine VS.seq ?_
        refine VS.region ?_
        refine X.lk ?_
        refine X.lk ?_
        refine X.lk ?_
        refine X.lk ?_
        refine X.bif (b := (!decide (x5.2 = x6.2))) (fun h5 => ?_) (fun h5 => ?_)
        · refine X.gN h5 ?_
          refine X.gN h5 ?_
          refine X.gN h5 ?_
          refine X.gN h5 ?_
          refine X.pT h5 ?_
          refine X.nil ?_
          refine ES.seq ?_
          refine VS.condT rfl ?_
          refine VS.seq ?_
          refine VS.region ?_
          refine X.lk ?_
          refine X.nil ?_
          refine ES.seq ?_
          refine VS.ret ?_
          refine ES.thnR ?_
          refine ES.blkR ?_
          refine ES.thnR ?_
          refine ES.thnR ?_
          refine ES.blkR ?_
          refine ES.thnR ?_
          refine ES.ret ?_
          exact Ret.clo [.c (.v (.bool false))] ⟨rfl, trivial⟩ trivial
        · refine X.gY h5 ?_
          refine X.lk ?_
          refine X.gY h5 ?_
          refine X.lk ?_
          refine X.gY h5 ?_
          refine X.call true [] [] (r24_Same_ok x5.1 x6.1) (fun x7 => ?_)
          refine X.gY h5 ?_
          refine X.lk ?_
          refine X.pF h5 ?_
          refine X.nil ?_
          refine ES.seq ?_
          refine VS.cond (fun h6 => ?_) (fun h6 => ?_)
          · refine VS.seq ?_
            refine VS.region ?_
            refine X.lk ?_
            refine X.nil ?_
            refine ES.seq ?_
            refine VS.ret ?_
            refine ES.thnR ?_
            refine ES.blkR ?_
            refine ES.thnR ?_
            refine ES.thnR ?_
            refine ES.blkR ?_
            refine ES.thnR ?_
            refine ES.ret ?_
            exact Ret.clo [.c (.v (.bool false))] ⟨rfl, trivial⟩ trivial
          · refine VS.skip ?_
            refine ES.seq ?_
            refine VS.seq ?_
            refine VS.drawn ?_
            refine X.lk ?_
            refine X.lk ?_
            refine X.lk ?_
            refine X.bif (b := (decide (x5.2 = 0))) (fun h7 => ?_) (fun h7 => ?_)
            · refine X.gY h7 ?_
              refine X.lk ?_
              refine X.gY h7 ?_
              refine X.lk ?_
              refine X.gY h7 ?_
              refine X.lk ?_
              refine X.gY h7 ?_
              refine X.call true [] [] (pack_Padding_ok x2.1 x2.2.1 x5.1) (fun x8 => ?_)
              refine X.gY h7 ?_
              refine X.lk ?_
              refine X.gY h7 ?_
              refine X.lk ?_
              refine X.gY h7 ?_
              refine X.lk ?_
              refine X.gY h7 ?_
              refine X.call true [] [] (r24_Padding_ok x2.1 x2.2.1 x6.1) (fun x9 => ?_)
              refine X.gY h7 ?_
              refine X.lk ?_
              refine X.pT h7 ?_
              refine X.nilD ?_ (by kernel_rfl)
              refine ES.seq ?_
              refine VS.cond (fun h8 => ?_) (fun h8 => ?_)
              · refine VS.weak (s' := (⟨[], [some (.bx 27 ((row_AProgram x2.1).map .v)), some (.sl 23 1 false (([raw1, x3.1.Off, ([] : List Int)] : List (List Int)).map (sR iRow))), some (.bx 48 ((row_ALayout x5.1).map .v)), some (.bx 48 ((row_ALayout x6.1).map .v))]⟩ : St)) (St.le_sub trivial ⟨rfl, rfl, rfl, rfl, trivial⟩ rfl) ?_
                refine VS.seq ?_
                refine VS.region ?_
                refine X.lk ?_
                refine X.nil ?_
                refine ES.seq ?_
                refine VS.ret ?_
                refine ES.blkR ?_
                refine ES.thnR ?_
                refine ES.thnR ?_
                refine ES.blkR ?_
                refine ES.thnR ?_
                refine ES.ret ?_
                exact Ret.clo [.c (.v (.bool false))] ⟨rfl, trivial⟩ trivial
              · refine VS.skip ?_
                refine ES.blkN ?_
                refine ES.seq ?_
                refine VS.region ?_
                refine X.ck fun h9 => ?_
                refine X.lk ?_
                refine X.nil ?_
                exact ES.go ih_again1 (x4 + 1) (St.le_sub ⟨rfl, rfl, rfl, rfl, rfl, rfl, trivial⟩ ⟨rfl, rfl, trivial⟩ rfl)
            · refine X.gN h7 ?_
              refine X.gN h7 ?_
              refine X.gN h7 ?_
              refine X.gN h7 ?_
              refine X.gN h7 ?_
              refine X.gN h7 ?_
              refine X.gN h7 ?_
              refine X.gN h7 ?_
              refine X.gN h7 ?_
              refine X.pF h7 ?_
              refine X.nilD ?_ (by kernel_rfl)
              refine ES.seq ?_
              refine VS.condF rfl ?_
              refine VS.skip ?_
              refine ES.blkN ?_
              refine ES.seq ?_
              refine VS.region ?_
              refine X.ck fun h10 => ?_
              refine X.lk ?_
              refine X.nil ?_
              exact ES.go ih_again1 (x4 + 1) (St.le_sub ⟨rfl, rfl, rfl, rfl, rfl, rfl, trivial⟩ ⟨rfl, rfl, trivial⟩ rfl)
      · refine VS.exit ?_
        refine ES.thnE ?_
        refine ES.thnE ?_
        refine ES.blkE ?_
        refine ES.seq ?_
        refine VS.seq ?_
        refine VS.region ?_
        refine X.lk ?_
        refine X.nil ?_
        refine ES.seq ?_
        refine VS.ret ?_
        refine ES.ret ?_
        exact Ret.clo [.c (.v (.bool true))] ⟨rfl, trivial⟩ trivial
end Go.Proofs.Ytbppgdffochdmaa.Q
