/- Walks of functions: the code does what the lifted text says (written by a program). -/
import Derived.Test.YtbppgdffochdmaaGw3
set_option linter.unusedVariables false
set_option linter.unusedSimpArgs false
set_option maxRecDepth 8000
namespace Go.Proofs.Ytbppgdffochdmaa.Q
open Go.RowKit
set_option maxHeartbeats 4000000 in
theorem pack_Finish_ok (p1 : AProgram) (i1 : Int) (align1 : Int) (off1 : List Int) : ∀ r : ALayout × Int, pack_Finish p1 i1 align1 off1 r → FCalls Try.prog 33 [] [.agg ((row_AProgram p1).map .v), .c (.v (.int .i64 i1)), .c (.v (.int .i64 align1)), .c (.v (.tree (off1.map iRow)))] (.tup [.agg ((row_ALayout r.1).map .v), .c (.v (.int .i64 r.2))]) [] [] := by
  refine fnS 61 ?_
  unfold pack_Finish
  refine VS.seq ?_
  refine VS.region ?_
  refine X.box 0 ?_
  refine X.alloc 1 ?_
  refine X.lk ?_
  refine X.nil ?_
  refine ES.seq ?_
  refine VS.seq ?_
  refine VS.region ?_
  refine X.lk ?_
  refine X.lk ?_
  refine X.lk ?_
  refine X.idxT (fun h1 => ?_)
  refine X.lk ?_
  refine X.lk ?_
  refine X.lk ?_
  refine X.nil ?_
  refine ES.seq ?_
  refine VS.seq ?_
  refine VS.seq ?_
  refine VS.region ?_
  refine X.lk ?_
  refine X.lenT ?_
  refine X.lk ?_
  refine X.lenT ?_
  refine X.lk ?_
  refine X.nil ?_
  refine ES.seq ?_
  refine VS.cond (fun h2 => ?_) (fun h2 => ?_)
  · refine VS.seq ?_
    refine VS.region ?_
    refine X.build ?_
    refine X.st ?_
    refine X.lk ?_
    refine X.nil ?_
    refine ES.seq ?_
    refine VS.ret ?_
    refine ES.thnR ?_
    refine ES.ret ?_
    exact Ret.clo [.agg ((row_ALayout (⟨0, 0, ([] : List Int)⟩ : ALayout)).map .v), .c (.v (.int .i64 13))] ⟨⟨_, _, _, _, _, _, rfl, rfl, fits rfl, rfl⟩, rfl, trivial⟩ trivial
  · refine VS.skip ?_
    refine ES.seq ?_
    refine VS.seq ?_
    refine VS.seq ?_
    refine VS.region ?_
    refine X.lk ?_
    refine X.lenT ?_
    refine X.lk ?_
    refine X.nil ?_
    refine ES.seq ?_
    refine VS.block ?_
    refine VS.loop (fun (x1 : Int) => (⟨[(1, .w (.c (.v (.int .i64 i1)))), (2, .w (.c (.v (.int .i64 align1)))), (3, .w (.c (.v (.tree (off1.map iRow))))), (4, .w (.c (.ptr 0 0 0))), (8, .w (.c (.ptr 1 0 0))), (10, .w (.c (.v (.tree (((atD p1.Funcs i1).Slots).map row_ASlot))))), (26, .w (.c (.v (.tree (((atD p1.Funcs i1).Slots).map row_ASlot))))), (27, .w (.c (.v (.int .i64 (((atD p1.Funcs i1).Slots).length : Int))))), (28, .w (.c (.v (.int .i64 x1))))], [some (.bx 27 ((row_AProgram p1).map .v)), some (.bx 48 [.v (.int .i64 0), .v (.int .i64 0), .v (.tree (([] : List Int).map iRow))])]⟩ : St)) (j0 := 0) (St.le_sub ⟨rfl, rfl, rfl, rfl, rfl, rfl, rfl, rfl, rfl, trivial⟩ ⟨rfl, rfl, trivial⟩ rfl) ?_
    rintro n1 again1 ih_again1 x1
    refine VS.seq ?_
    refine VS.region ?_
    refine X.lk ?_
    refine X.nil ?_
    refine ES.seq ?_
    refine VS.seq ?_
    refine VS.cond (fun h3 => ?_) (fun h3 => ?_)
    · refine VS.skip ?_
      refine ES.seq ?_
      refine VS.seq ?_
      refine VS.block ?_
      refine VS.seq ?_
      refine VS.region ?_
      refine X.lk ?_
      refine X.idxT (fun h4 => ?_)
      refine X.lk ?_
      refine X.alloc 2 ?_
      refine X.lk ?_
      refine X.st ?_
      refine X.nil ?_
      refine ES.seq ?_
      refine VS.seq ?_
      refine VS.drawn ?_
      refine X.lk ?_
      refine X.lk ?_
      refine X.idxT (fun h5 => ?_)
      refine X.lk ?_
      refine X.lk ?_
      refine X.lk ?_
      refine X.build ?_
      refine X.call true [] [] (extent_Inside_ok (⟨(atD off1 x1), (atD ((atD p1.Funcs i1).Slots) x1).Size⟩ : AInterval) 2147483647) (fun x2 => ?_)
      refine X.lk ?_
      refine X.nilD ?_ (by kernel_rfl)
      refine ES.seq ?_
      refine VS.cond (fun h6 => ?_) (fun h6 => ?_)
      · refine VS.seq ?_
        refine VS.region ?_
        refine X.build ?_
        refine X.st ?_
        refine X.lk ?_
        refine X.nil ?_
        refine ES.seq ?_
        refine VS.ret ?_
        refine ES.blkR ?_
        refine ES.thnR ?_
        refine ES.thnR ?_
        refine ES.blkR ?_
        refine ES.thnR ?_
        refine ES.ret ?_
        exact Ret.clo [.agg ((row_ALayout (⟨0, 0, ([] : List Int)⟩ : ALayout)).map .v), .c (.v (.int .i64 13))] ⟨⟨_, _, _, _, _, _, rfl, rfl, fits rfl, rfl⟩, rfl, trivial⟩ trivial
      · refine VS.skip ?_
        refine ES.blkN ?_
        refine ES.seq ?_
        refine VS.region ?_
        refine X.ck fun h7 => ?_
        refine X.lk ?_
        refine X.nil ?_
        exact ES.go ih_again1 (x1 + 1) (St.le_sub ⟨rfl, rfl, rfl, rfl, rfl, rfl, rfl, rfl, rfl, trivial⟩ ⟨rfl, rfl, trivial⟩ rfl)
    · refine VS.exit ?_
      refine ES.thnE ?_
      refine ES.thnE ?_
      refine ES.blkE ?_
      refine ES.seq ?_
      refine VS.seq ?_
      refine VS.region ?_
      refine X.lk ?_
      refine X.lk ?_
      refine X.call true [] [] (pack_Args_ok p1 i1) (fun x3 => ?_)
      refine X.lk ?_
      refine X.call true [] [] (slices_Clone___int_int__ok off1) (fun x4 => ?_)
      refine X.build ?_
      refine X.alloc 2 ?_
      refine X.st ?_
      refine X.nil ?_
      refine ES.seq ?_
      refine VS.seq ?_
      refine VS.drawn ?_
      refine X.lk ?_
      refine X.lk ?_
      refine X.lk ?_
      refine X.lk ?_
      refine X.lk ?_
      refine X.call true [] [] (colour_End_ok ((atD p1.Funcs i1).Slots) off1) (fun x5 => ?_)
      refine X.max3 ?_
      refine X.lk ?_
      refine X.call true [] [] (pack_sized_ok (⟨x3, 0, x4⟩ : ALayout) (max (max x3 0) x5) align1) (fun x6 => ?_)
      refine X.lk ?_
      refine X.lk ?_
      refine X.st ?_
      refine X.lk ?_
      refine X.nilD ?_ (by kernel_rfl)
      refine ES.seq ?_
      refine VS.ret ?_
      refine ES.ret ?_
      exact Ret.clo [.agg ((row_ALayout x6.1).map .v), .c (.v (.int .i64 x6.2))] ⟨⟨_, _, _, _, _, _, rfl, rfl, fits rfl, rfl⟩, rfl, trivial⟩ trivial
set_option maxHeartbeats 4000000 in
theorem r03_Right_ok (a1 : AInterval) : ∀ r : Bool, r03_Right a1 r → FCalls Try.prog 64 [] [.agg ((row_AInterval a1).map .v)] (.w (.c (.v (.bool r)))) [] [] := by
  refine fnS 19 ?_
  unfold r03_Right
  refine VS.seq ?_
  refine VS.region ?_
  refine X.box 0 ?_
  refine X.lk ?_
  refine X.nil ?_
  refine ES.seq ?_
  refine VS.seq ?_
  refine VS.region ?_
  refine X.lk ?_
  refine X.lk ?_
  refine X.call true [] [] (r03_Bound_ok a1.Off) (fun x1 => ?_)
  refine X.lk ?_
  refine X.bif (b := x1) (fun h1 => ?_) (fun h1 => ?_)
  · refine X.gY h1 ?_
    refine X.lk ?_
    refine X.gY h1 ?_
    refine X.lk ?_
    refine X.gY h1 ?_
    refine X.call true [] [] (r03_Bound_ok a1.Size) (fun x2 => ?_)
    refine X.pT h1 ?_
    refine X.lk ?_
    refine X.bif (b := x2) (fun h2 => ?_) (fun h2 => ?_)
    · refine X.gY h2 ?_
      refine X.lk ?_
      refine X.gY h2 ?_
      refine X.lk ?_
      refine X.gY h2 ?_
      refine X.lk ?_
      refine X.gY h2 ?_
      refine X.lk ?_
      refine X.gY h2 ?_
      refine X.ck fun h3 => ?_
      refine X.gY h2 ?_
      refine X.lk ?_
      refine X.pT h2 ?_
      refine X.lk ?_
      refine X.nil ?_
      refine ES.seq ?_
      refine VS.ret ?_
      refine ES.ret ?_
      exact Ret.clo [.c (.v (.bool (decide ((a1.Off + a1.Size) ≤ 2147483647))))] ⟨rfl, trivial⟩ trivial
    · refine X.gN h2 ?_
      refine X.gN h2 ?_
      refine X.gN h2 ?_
      refine X.gN h2 ?_
      refine X.gN h2 ?_
      refine X.gN h2 ?_
      refine X.pF h2 ?_
      refine X.lk ?_
      refine X.nil ?_
      refine ES.seq ?_
      refine VS.ret ?_
      refine ES.ret ?_
      exact Ret.clo [.c (.v (.bool false))] ⟨rfl, trivial⟩ trivial
  · refine X.gN h1 ?_
    refine X.gN h1 ?_
    refine X.gN h1 ?_
    refine X.pF h1 ?_
    refine X.lk ?_
    refine X.gN rfl ?_
    refine X.gN rfl ?_
    refine X.gN rfl ?_
    refine X.gN rfl ?_
    refine X.gN rfl ?_
    refine X.gN rfl ?_
    refine X.pF rfl ?_
    refine X.lk ?_
    refine X.nil ?_
    refine ES.seq ?_
    refine VS.ret ?_
    refine ES.ret ?_
    exact Ret.clo [.c (.v (.bool false))] ⟨rfl, trivial⟩ trivial
set_option maxHeartbeats 4000000 in
theorem r03_Inside_ok (a1 : AInterval) (size1 : Int) : ∀ r : Bool, r03_Inside a1 size1 r → FCalls Try.prog 34 [] [.agg ((row_AInterval a1).map .v), .c (.v (.int .i64 size1))] (.w (.c (.v (.bool r)))) [] [] := by
  refine fnS 16 ?_
  unfold r03_Inside
  refine VS.seq ?_
  refine VS.region ?_
  refine X.box 0 ?_
  refine X.lk ?_
  refine X.nil ?_
  refine ES.seq ?_
  refine VS.seq ?_
  refine VS.region ?_
  refine X.lk ?_
  refine X.call true [] [] (r03_Right_ok a1) (fun x1 => ?_)
  refine X.lk ?_
  refine X.bif (b := x1) (fun h1 => ?_) (fun h1 => ?_)
  · refine X.gY h1 ?_
    refine X.lk ?_
    refine X.gY h1 ?_
    refine X.lk ?_
    refine X.gY h1 ?_
    refine X.lk ?_
    refine X.gY h1 ?_
    refine X.lk ?_
    refine X.gY h1 ?_
    refine X.ck fun h2 => ?_
    refine X.gY h1 ?_
    refine X.lk ?_
    refine X.gY h1 ?_
    refine X.lk ?_
    refine X.pT h1 ?_
    refine X.lk ?_
    refine X.nil ?_
    refine ES.seq ?_
    refine VS.ret ?_
    refine ES.ret ?_
    exact Ret.clo [.c (.v (.bool (decide ((a1.Off + a1.Size) ≤ size1))))] ⟨rfl, trivial⟩ trivial
  · refine X.gN h1 ?_
    refine X.gN h1 ?_
    refine X.gN h1 ?_
    refine X.gN h1 ?_
    refine X.gN h1 ?_
    refine X.gN h1 ?_
    refine X.gN h1 ?_
    refine X.pF h1 ?_
    refine X.lk ?_
    refine X.nil ?_
    refine ES.seq ?_
    refine VS.ret ?_
    refine ES.ret ?_
    exact Ret.clo [.c (.v (.bool false))] ⟨rfl, trivial⟩ trivial
set_option maxHeartbeats 4000000 in
theorem r03_Overlap_ok (a1 : AInterval) (b1 : AInterval) : ∀ r : Bool, r03_Overlap a1 b1 r → FCalls Try.prog 35 [] [.agg ((row_AInterval a1).map .v), .agg ((row_AInterval b1).map .v)] (.w (.c (.v (.bool r)))) [] [] := by
  refine fnS 41 ?_
  unfold r03_Overlap
  refine VS.seq ?_
  refine VS.region ?_
  refine X.box 0 ?_
  refine X.box 1 ?_
  refine X.lk ?_
  refine X.nil ?_
  refine ES.seq ?_
  refine VS.seq ?_
  refine VS.region ?_
  refine X.lk ?_
  refine X.call true [] [] (r03_Right_ok a1) (fun x1 => ?_)
  refine X.lk ?_
  refine X.bif (b := x1) (fun h1 => ?_) (fun h1 => ?_)
  · refine X.gY h1 ?_
    refine X.lk ?_
    refine X.gY h1 ?_
    refine X.call true [] [] (r03_Right_ok b1) (fun x2 => ?_)
    refine X.pT h1 ?_
    refine X.lk ?_
    refine X.bif (b := x2) (fun h2 => ?_) (fun h2 => ?_)
    · refine X.gY h2 ?_
      refine X.lk ?_
      refine X.gY h2 ?_
      refine X.lk ?_
      refine X.gY h2 ?_
      refine X.lk ?_
      refine X.pT h2 ?_
      refine X.lk ?_
      refine X.bif (b := (decide (0 < a1.Size))) (fun h3 => ?_) (fun h3 => ?_)
      · refine X.gY h3 ?_
        refine X.lk ?_
        refine X.gY h3 ?_
        refine X.lk ?_
        refine X.gY h3 ?_
        refine X.lk ?_
        refine X.pT h3 ?_
        refine X.lk ?_
        refine X.bif (b := (decide (0 < b1.Size))) (fun h4 => ?_) (fun h4 => ?_)
        · refine X.gY h4 ?_
          refine X.lk ?_
          refine X.gY h4 ?_
          refine X.lk ?_
          refine X.gY h4 ?_
          refine X.lk ?_
          refine X.gY h4 ?_
          refine X.lk ?_
          refine X.gY h4 ?_
          refine X.lk ?_
          refine X.gY h4 ?_
          refine X.lk ?_
          refine X.gY h4 ?_
          refine X.ck fun h5 => ?_
          refine X.gY h4 ?_
          refine X.lk ?_
          refine X.pT h4 ?_
          refine X.lk ?_
          refine X.bif (b := (decide (a1.Off < (b1.Off + b1.Size)))) (fun h6 => ?_) (fun h6 => ?_)
          · refine X.gY h6 ?_
            refine X.lk ?_
            refine X.gY h6 ?_
            refine X.lk ?_
            refine X.gY h6 ?_
            refine X.lk ?_
            refine X.gY h6 ?_
            refine X.lk ?_
            refine X.gY h6 ?_
            refine X.lk ?_
            refine X.gY h6 ?_
            refine X.lk ?_
            refine X.gY h6 ?_
            refine X.ck fun h7 => ?_
            refine X.gY h6 ?_
            refine X.lk ?_
            refine X.pT h6 ?_
            refine X.lk ?_
            refine X.nil ?_
            refine ES.seq ?_
            refine VS.ret ?_
            refine ES.ret ?_
            exact Ret.clo [.c (.v (.bool (decide (b1.Off < (a1.Off + a1.Size)))))] ⟨rfl, trivial⟩ trivial
          · refine X.gN h6 ?_
            refine X.gN h6 ?_
            refine X.gN h6 ?_
            refine X.gN h6 ?_
            refine X.gN h6 ?_
            refine X.gN h6 ?_
            refine X.gN h6 ?_
            refine X.gN h6 ?_
            refine X.pF h6 ?_
            refine X.lk ?_
            refine X.nil ?_
            refine ES.seq ?_
            refine VS.ret ?_
            refine ES.ret ?_
            exact Ret.clo [.c (.v (.bool false))] ⟨rfl, trivial⟩ trivial
        · refine X.gN h4 ?_
          refine X.gN h4 ?_
          refine X.gN h4 ?_
          refine X.gN h4 ?_
          refine X.gN h4 ?_
          refine X.gN h4 ?_
          refine X.gN h4 ?_
          refine X.gN h4 ?_
          refine X.pF h4 ?_
          refine X.lk ?_
          refine X.gN rfl ?_
          refine X.gN rfl ?_
          refine X.gN rfl ?_
          refine X.gN rfl ?_
          refine X.gN rfl ?_
          refine X.gN rfl ?_
          refine X.gN rfl ?_
          refine X.gN rfl ?_
          refine X.pF rfl ?_
          refine X.lk ?_
          refine X.nil ?_
          refine ES.seq ?_
          refine VS.ret ?_
          refine ES.ret ?_
          exact Ret.clo [.c (.v (.bool false))] ⟨rfl, trivial⟩ trivial
      · refine X.gN h3 ?_
        refine X.gN h3 ?_
        refine X.gN h3 ?_
        refine X.pF h3 ?_
        refine X.lk ?_
        refine X.gN rfl ?_
        refine X.gN rfl ?_
        refine X.gN rfl ?_
        refine X.gN rfl ?_
        refine X.gN rfl ?_
        refine X.gN rfl ?_
        refine X.gN rfl ?_
        refine X.gN rfl ?_
        refine X.pF rfl ?_
        refine X.lk ?_
        refine X.gN rfl ?_
        refine X.gN rfl ?_
        refine X.gN rfl ?_
        refine X.gN rfl ?_
        refine X.gN rfl ?_
        refine X.gN rfl ?_
        refine X.gN rfl ?_
        refine X.gN rfl ?_
        refine X.pF rfl ?_
        refine X.lk ?_
        refine X.nil ?_
        refine ES.seq ?_
        refine VS.ret ?_
        refine ES.ret ?_
        exact Ret.clo [.c (.v (.bool false))] ⟨rfl, trivial⟩ trivial
    · refine X.gN h2 ?_
      refine X.gN h2 ?_
      refine X.gN h2 ?_
      refine X.pF h2 ?_
      refine X.lk ?_
      refine X.gN rfl ?_
      refine X.gN rfl ?_
      refine X.gN rfl ?_
      refine X.pF rfl ?_
      refine X.lk ?_
      refine X.gN rfl ?_
      refine X.gN rfl ?_
      refine X.gN rfl ?_
      refine X.gN rfl ?_
      refine X.gN rfl ?_
      refine X.gN rfl ?_
      refine X.gN rfl ?_
      refine X.gN rfl ?_
      refine X.pF rfl ?_
      refine X.lk ?_
      refine X.gN rfl ?_
      refine X.gN rfl ?_
      refine X.gN rfl ?_
      refine X.gN rfl ?_
      refine X.gN rfl ?_
      refine X.gN rfl ?_
      refine X.gN rfl ?_
      refine X.gN rfl ?_
      refine X.pF rfl ?_
      refine X.lk ?_
      refine X.nil ?_
      refine ES.seq ?_
      refine VS.ret ?_
      refine ES.ret ?_
      exact Ret.clo [.c (.v (.bool false))] ⟨rfl, trivial⟩ trivial
  · refine X.gN h1 ?_
    refine X.gN h1 ?_
    refine X.pF h1 ?_
    refine X.lk ?_
    refine X.gN rfl ?_
    refine X.gN rfl ?_
    refine X.gN rfl ?_
    refine X.pF rfl ?_
    refine X.lk ?_
    refine X.gN rfl ?_
    refine X.gN rfl ?_
    refine X.gN rfl ?_
    refine X.pF rfl ?_
    refine X.lk ?_
    refine X.gN rfl ?_
    refine X.gN rfl ?_
    refine X.gN rfl ?_
    refine X.gN rfl ?_
    refine X.gN rfl ?_
    refine X.gN rfl ?_
    refine X.gN rfl ?_
    refine X.gN rfl ?_
    refine X.pF rfl ?_
    refine X.lk ?_
    refine X.gN rfl ?_
    refine X.gN rfl ?_
    refine X.gN rfl ?_
    refine X.gN rfl ?_
    refine X.gN rfl ?_
    refine X.gN rfl ?_
    refine X.gN rfl ?_
    refine X.gN rfl ?_
    refine X.pF rfl ?_
    refine X.lk ?_
    refine X.nil ?_
    refine ES.seq ?_
    refine VS.ret ?_
    refine ES.ret ?_
    exact Ret.clo [.c (.v (.bool false))] ⟨rfl, trivial⟩ trivial
set_option maxHeartbeats 4000000 in
theorem law24_PackBaselineIsDisjoint_ok (codes1 : List Int) : ∀ r : Bool, law24_PackBaselineIsDisjoint codes1 r → FCalls Try.prog 6 [] [.c (.v (.tree (codes1.map bRow)))] (.w (.c (.v (.bool r)))) [] [] := by
  refine fnS 144 ?_
  unfold law24_PackBaselineIsDisjoint
  refine VS.seq ?_
  refine VS.region ?_
  refine X.lk ?_
  refine X.nil ?_
  refine ES.seq ?_
  refine VS.seq ?_
  refine VS.seq ?_
  refine VS.region ?_
  refine X.call true [] [] law24_awake_ok (fun x1 => ?_)
  refine X.lk ?_
  refine X.nil ?_
  refine ES.seq ?_
  refine VS.cond (fun h1 => ?_) (fun h1 => ?_)
  · refine VS.seq ?_
    refine VS.region ?_
    refine X.lk ?_
    refine X.nil ?_
    refine ES.seq ?_
    refine VS.ret ?_
    refine ES.thnR ?_
    refine ES.ret ?_
    exact Ret.clo [.c (.v (.bool false))] ⟨rfl, trivial⟩ trivial
  · refine VS.skip ?_
    refine ES.seq ?_
    refine VS.seq ?_
    refine VS.region ?_
    refine X.lk ?_
    refine X.callE 0 [] (law24_scene_ok codes1) (fun x2 => ?_)
    refine X.lk ?_
    refine X.lk ?_
    refine X.lk ?_
    refine X.lk ?_
    refine X.lk ?_
    refine X.alloc 1 ?_
    refine X.st ?_
    refine X.lk ?_
    refine X.lk ?_
    refine X.lk ?_
    refine X.nil ?_
    refine ES.seq ?_
    refine VS.seq ?_
    refine VS.region ?_
    refine X.lk ?_
    refine X.lk ?_
    refine X.lk ?_
    refine X.call true [] [] (pack_Baseline_ok x2.1 x2.2.1 x2.2.2.1) (fun x3 => ?_)
    refine X.lk ?_
    refine X.lk ?_
    refine X.lk ?_
    refine X.alloc 2 ?_
    refine X.st ?_
    refine X.lk ?_
    refine X.nil ?_
    refine ES.seq ?_
    refine VS.seq ?_
    refine VS.region ?_
    refine X.lk ?_
    refine X.lk ?_
    refine X.lk ?_
    refine X.lk ?_
    refine X.lk ?_
    refine X.call true [] [] (pack_Finish_ok x2.1 x2.2.1 x2.2.2.1 x3.1.Off) (fun x4 => ?_)
    refine X.lk ?_
    refine X.lk ?_
    refine X.lk ?_
    refine X.alloc 3 ?_
    refine X.st ?_
    refine X.lk ?_
    refine X.nil ?_
    refine ES.seq ?_
    refine VS.seq ?_
    refine VS.region ?_
    refine X.lk ?_
    refine X.lk ?_
    refine X.lk ?_
    refine X.idxT (fun h2 => ?_)
    refine X.lk ?_
    refine X.lk ?_
    refine X.lk ?_
    refine X.nil ?_
    refine ES.seq ?_
    refine VS.seq ?_
    refine VS.seq ?_
    refine VS.region ?_
    refine X.lk ?_
    refine X.lk ?_
    refine X.lk ?_
    refine X.bif (b := (!decide (x3.2 = 0))) (fun h3 => ?_) (fun h3 => ?_)
    · refine X.gN h3 ?_
      refine X.gN h3 ?_
      refine X.pT h3 ?_
      refine X.lk ?_
      refine X.gN rfl ?_
      refine X.gN rfl ?_
      refine X.gN rfl ?_
      refine X.gN rfl ?_
      refine X.pT rfl ?_
      refine X.lk ?_
      refine X.gN rfl ?_
      refine X.gN rfl ?_
      refine X.gN rfl ?_
      refine X.gN rfl ?_
      refine X.gN rfl ?_
      refine X.gN rfl ?_
      refine X.pT rfl ?_
      refine X.lk ?_
      refine X.gN rfl ?_
      refine X.gN rfl ?_
      refine X.gN rfl ?_
      refine X.gN rfl ?_
      refine X.gN rfl ?_
      refine X.pT rfl ?_
      refine X.lk ?_
      refine X.gN rfl ?_
      refine X.gN rfl ?_
      refine X.gN rfl ?_
      refine X.gN rfl ?_
      refine X.gN rfl ?_
      refine X.pT rfl ?_
      refine X.nil ?_
      refine ES.seq ?_
      refine VS.condT rfl ?_
      refine VS.seq ?_
      refine VS.region ?_
      refine X.lk ?_
      refine X.nil ?_
      refine ES.seq ?_
      refine VS.ret ?_
      refine ES.thnR ?_
      refine ES.ret ?_
      exact Ret.clo [.c (.v (.bool false))] ⟨rfl, trivial⟩ trivial
    · refine X.gY h3 ?_
      refine X.lk ?_
      refine X.gY h3 ?_
      refine X.lk ?_
      refine X.pF h3 ?_
      refine X.lk ?_
      refine X.bif (b := (!decide (x4.2 = 0))) (fun h4 => ?_) (fun h4 => ?_)
      · refine X.gN h4 ?_
        refine X.gN h4 ?_
        refine X.gN h4 ?_
        refine X.gN h4 ?_
        refine X.pT h4 ?_
        refine X.lk ?_
        refine X.gN rfl ?_
        refine X.gN rfl ?_
        refine X.gN rfl ?_
        refine X.gN rfl ?_
        refine X.gN rfl ?_
        refine X.gN rfl ?_
        refine X.pT rfl ?_
        refine X.lk ?_
        refine X.gN rfl ?_
        refine X.gN rfl ?_
        refine X.gN rfl ?_
        refine X.gN rfl ?_
        refine X.gN rfl ?_
        refine X.pT rfl ?_
        refine X.lk ?_
        refine X.gN rfl ?_
        refine X.gN rfl ?_
        refine X.gN rfl ?_
        refine X.gN rfl ?_
        refine X.gN rfl ?_
        refine X.pT rfl ?_
        refine X.nil ?_
        refine ES.seq ?_
        refine VS.condT rfl ?_
        refine VS.seq ?_
        refine VS.region ?_
        refine X.lk ?_
        refine X.nil ?_
        refine ES.seq ?_
        refine VS.ret ?_
        refine ES.thnR ?_
        refine ES.ret ?_
        exact Ret.clo [.c (.v (.bool false))] ⟨rfl, trivial⟩ trivial
      · refine X.gY h4 ?_
        refine X.lk ?_
        refine X.gY h4 ?_
        refine X.lk ?_
        refine X.gY h4 ?_
        refine X.call true [] [] (r24_Same_ok x3.1 x4.1) (fun x5 => ?_)
        refine X.gY h4 ?_
        refine X.lk ?_
        refine X.pF h4 ?_
        refine X.lk ?_
        refine X.bif (b := (!x5)) (fun h5 => ?_) (fun h5 => ?_)
        · refine X.gN h5 ?_
          refine X.gN h5 ?_
          refine X.gN h5 ?_
          refine X.gN h5 ?_
          refine X.gN h5 ?_
          refine X.gN h5 ?_
          refine X.pT h5 ?_
          refine X.lk ?_
          refine X.gN rfl ?_
          refine X.gN rfl ?_
          refine X.gN rfl ?_
          refine X.gN rfl ?_
          refine X.gN rfl ?_
          refine X.pT rfl ?_
          refine X.lk ?_
          refine X.gN rfl ?_
          refine X.gN rfl ?_
          refine X.gN rfl ?_
          refine X.gN rfl ?_
          refine X.gN rfl ?_
          refine X.pT rfl ?_
          refine X.nil ?_
          refine ES.seq ?_
          refine VS.condT rfl ?_
          refine VS.seq ?_
          refine VS.region ?_
          refine X.lk ?_
          refine X.nil ?_
          refine ES.seq ?_
          refine VS.ret ?_
          refine ES.thnR ?_
          refine ES.ret ?_
          exact Ret.clo [.c (.v (.bool false))] ⟨rfl, trivial⟩ trivial
        · refine X.gY h5 ?_
          refine X.lk ?_
          refine X.gY h5 ?_
          refine X.lk ?_
          refine X.gY h5 ?_
          refine X.lenT ?_
          refine X.gY h5 ?_
          refine X.lk ?_
          refine X.gY h5 ?_
          refine X.lenT ?_
          refine X.gY h5 ?_
          refine X.lk ?_
          refine X.pF h5 ?_
          refine X.lk ?_
          refine X.bif (b := (!decide ((x3.1.Off.length : Int) = (((atD x2.1.Funcs x2.2.1).Slots).length : Int)))) (fun h6 => ?_) (fun h6 => ?_)
          · refine X.gN h6 ?_
            refine X.gN h6 ?_
            refine X.gN h6 ?_
            refine X.gN h6 ?_
            refine X.gN h6 ?_
            refine X.pT h6 ?_
            refine X.lk ?_
            refine X.gN rfl ?_
            refine X.gN rfl ?_
            refine X.gN rfl ?_
            refine X.gN rfl ?_
            refine X.gN rfl ?_
            refine X.pT rfl ?_
            refine X.nil ?_
            refine ES.seq ?_
            refine VS.condT rfl ?_
            refine VS.seq ?_
            refine VS.region ?_
            refine X.lk ?_
            refine X.nil ?_
            refine ES.seq ?_
            refine VS.ret ?_
            refine ES.thnR ?_
            refine ES.ret ?_
            exact Ret.clo [.c (.v (.bool false))] ⟨rfl, trivial⟩ trivial
          · refine X.gY h6 ?_
            refine X.lk ?_
            refine X.gY h6 ?_
            refine X.lk ?_
            refine X.gY h6 ?_
            refine X.lk ?_
            refine X.gY h6 ?_
            refine X.ck fun h7 => ?_
            refine X.gY h6 ?_
            refine X.lk ?_
            refine X.pF h6 ?_
            refine X.lk ?_
            refine X.bif (b := (!decide ((x3.1.Size % x2.2.2.1) = 0))) (fun h8 => ?_) (fun h8 => ?_)
            · refine X.gN h8 ?_
              refine X.gN h8 ?_
              refine X.gN h8 ?_
              refine X.gN h8 ?_
              refine X.gN h8 ?_
              refine X.pT h8 ?_
              refine X.nil ?_
              refine ES.seq ?_
              refine VS.condT rfl ?_
              refine VS.seq ?_
              refine VS.region ?_
              refine X.lk ?_
              refine X.nil ?_
              refine ES.seq ?_
              refine VS.ret ?_
              refine ES.thnR ?_
              refine ES.ret ?_
              exact Ret.clo [.c (.v (.bool false))] ⟨rfl, trivial⟩ trivial
            · refine X.gY h8 ?_
              refine X.lk ?_
              refine X.gY h8 ?_
              refine X.lk ?_
              refine X.gY h8 ?_
              refine X.lk ?_
              refine X.gY h8 ?_
              refine X.lk ?_
              refine X.gY h8 ?_
              refine X.lk ?_
              refine X.pF h8 ?_
              refine X.nil ?_
              refine ES.seq ?_
              refine VS.cond (fun h9 => ?_) (fun h9 => ?_)
              · refine VS.seq ?_
                refine VS.region ?_
                refine X.lk ?_
                refine X.nil ?_
                refine ES.seq ?_
                refine VS.ret ?_
                refine ES.thnR ?_
                refine ES.ret ?_
                exact Ret.clo [.c (.v (.bool false))] ⟨rfl, trivial⟩ trivial
              · refine VS.skip ?_
                refine ES.seq ?_
                refine VS.seq ?_
                refine VS.seq ?_
                refine VS.region ?_
                refine X.lk ?_
                refine X.nil ?_
                refine ES.seq ?_
                refine VS.block ?_
                refine VS.loop (fun (k1 : Int) => (⟨[(7, .w (.c (.ptr 0 0 0))), (11, .w (.c (.v (.tree (((atD x2.1.Funcs x2.2.1).Slots).map row_ASlot))))), (12, .w (.c (.v (.int .i64 k1))))], [some (.bx 48 ((row_ALayout x3.1).map .v))]⟩ : St)) (j0 := 0) ((St.le_drop _ 0 (Nat.le_of_ble_eq_true rfl)).trans ((St.le_mvB _ 2 0 rfl rfl rfl rfl).trans (St.le_sub ⟨rfl, rfl, rfl, trivial⟩ ⟨rfl, trivial⟩ rfl))) ?_
                rintro n1 again1 ih_again1 k1
                refine VS.seq ?_
                refine VS.seq ?_
                refine VS.region ?_
                refine X.lk ?_
                refine X.lk ?_
                refine X.lenT ?_
                refine X.lk ?_
                refine X.nil ?_
                refine ES.seq ?_
                refine VS.cond (fun h10 => ?_) (fun h10 => ?_)
                · refine VS.skip ?_
                  refine ES.seq ?_
                  refine VS.seq ?_
                  refine VS.block ?_
                  refine VS.seq ?_
                  refine VS.drawn ?_
                  refine X.lk ?_
                  refine X.lk ?_
                  refine X.lk ?_
                  refine X.idxT (fun h11 => ?_)
                  refine X.lk ?_
                  refine X.lk ?_
                  refine X.lk ?_
                  refine X.idxT (fun h12 => ?_)
                  refine X.lk ?_
                  refine X.lk ?_
                  refine X.build ?_
                  refine X.alloc 1 ?_
                  refine X.st ?_
                  refine X.nilD ?_ (by kernel_rfl)
                  refine ES.seq ?_
                  refine VS.seq ?_
                  refine VS.seq ?_
                  refine VS.drawn ?_
                  refine X.lk ?_
                  refine X.lk ?_
                  refine X.lk ?_
                  refine X.idxT (fun h13 => ?_)
                  refine X.lk ?_
                  refine X.lk ?_
                  refine X.lk ?_
                  refine X.idxT (fun h14 => ?_)
                  refine X.lk ?_
                  refine X.lk ?_
                  refine X.ck fun h15 => ?_
                  refine X.lk ?_
                  refine X.lk ?_
                  refine X.bif (b := (!decide (((atD x3.1.Off k1) % ((atD ((atD x2.1.Funcs x2.2.1).Slots) k1).Align)) = 0))) (fun h16 => ?_) (fun h16 => ?_)
                  · refine X.gN h16 ?_
                    refine X.gN h16 ?_
                    refine X.gN h16 ?_
                    refine X.gN h16 ?_
                    refine X.gN h16 ?_
                    refine X.gN h16 ?_
                    refine X.gN h16 ?_
                    refine X.gN h16 ?_
                    refine X.pT h16 ?_
                    refine X.lk ?_
                    refine X.gN rfl ?_
                    refine X.gN rfl ?_
                    refine X.gN rfl ?_
                    refine X.gN rfl ?_
                    refine X.gN rfl ?_
                    refine X.pT rfl ?_
                    refine X.nilD ?_ (by kernel_rfl)
                    refine ES.seq ?_
                    refine VS.condT rfl ?_
                    refine VS.seq ?_
                    refine VS.region ?_
                    refine X.lk ?_
                    refine X.nil ?_
                    refine ES.seq ?_
                    refine VS.ret ?_
                    refine ES.thnR ?_
                    refine ES.blkR ?_
                    refine ES.thnR ?_
                    refine ES.thnR ?_
                    refine ES.blkR ?_
                    refine ES.thnR ?_
                    refine ES.ret ?_
                    exact Ret.clo [.c (.v (.bool false))] ⟨rfl, trivial⟩ trivial
                  · refine X.gY h16 ?_
                    refine X.lk ?_
                    refine X.gY h16 ?_
                    refine X.lk ?_
                    refine X.gY h16 ?_
                    refine X.lk ?_
                    refine X.gY h16 ?_
                    refine X.idxT (fun h17 => ?_)
                    refine X.gY h16 ?_
                    refine X.lk ?_
                    refine X.gY h16 ?_
                    refine X.lk ?_
                    refine X.gY h16 ?_
                    refine X.lk ?_
                    refine X.gY h16 ?_
                    refine X.lk ?_
                    refine X.pF h16 ?_
                    refine X.lk ?_
                    refine X.bif (b := (decide ((atD x3.1.Off k1) < x3.1.Args))) (fun h18 => ?_) (fun h18 => ?_)
                    · refine X.gN h18 ?_
                      refine X.gN h18 ?_
                      refine X.gN h18 ?_
                      refine X.gN h18 ?_
                      refine X.gN h18 ?_
                      refine X.pT h18 ?_
                      refine X.nilD ?_ (by kernel_rfl)
                      refine ES.seq ?_
                      refine VS.condT rfl ?_
                      refine VS.seq ?_
                      refine VS.region ?_
                      refine X.lk ?_
                      refine X.nil ?_
                      refine ES.seq ?_
                      refine VS.ret ?_
                      refine ES.thnR ?_
                      refine ES.blkR ?_
                      refine ES.thnR ?_
                      refine ES.thnR ?_
                      refine ES.blkR ?_
                      refine ES.thnR ?_
                      refine ES.ret ?_
                      exact Ret.clo [.c (.v (.bool false))] ⟨rfl, trivial⟩ trivial
                    · refine X.gY h18 ?_
                      refine X.lk ?_
                      refine X.gY h18 ?_
                      refine X.lk ?_
                      refine X.gY h18 ?_
                      refine X.lk ?_
                      refine X.gY h18 ?_
                      refine X.call true [] [] (r03_Inside_ok (⟨(atD x3.1.Off k1), (atD ((atD x2.1.Funcs x2.2.1).Slots) k1).Size⟩ : AInterval) x3.1.Size) (fun x6 => ?_)
                      refine X.gY h18 ?_
                      refine X.lk ?_
                      refine X.pF h18 ?_
                      refine X.nilD ?_ (by kernel_rfl)
                      refine ES.seq ?_
                      refine VS.cond (fun h19 => ?_) (fun h19 => ?_)
                      · refine VS.seq ?_
                        refine VS.region ?_
                        refine X.lk ?_
                        refine X.nil ?_
                        refine ES.seq ?_
                        refine VS.ret ?_
                        refine ES.thnR ?_
                        refine ES.blkR ?_
                        refine ES.thnR ?_
                        refine ES.thnR ?_
                        refine ES.blkR ?_
                        refine ES.thnR ?_
                        refine ES.ret ?_
                        exact Ret.clo [.c (.v (.bool false))] ⟨rfl, trivial⟩ trivial
                      · refine VS.skip ?_
                        refine ES.seq ?_
                        refine VS.seq ?_
                        refine VS.region ?_
                        refine X.lk ?_
                        refine X.nil ?_
                        refine ES.seq ?_
                        refine VS.block ?_
                        refine VS.loop (fun (j1 : Int) => (⟨[(7, .w (.c (.ptr 0 0 0))), (11, .w (.c (.v (.tree (((atD x2.1.Funcs x2.2.1).Slots).map row_ASlot))))), (12, .w (.c (.v (.int .i64 k1)))), (13, .w (.c (.ptr 1 0 0))), (14, .w (.c (.v (.int .i64 j1)))), (110, .w (.c (.ptr 0 0 2))), (111, .w (.c (.v (.tree (x3.1.Off.map iRow))))), (112, .w (.c (.v (.int .i64 k1)))), (113, .w (.c (.tptr (iRow (atD x3.1.Off k1)) 0))), (114, .w (.c (.v (.int .i64 (atD x3.1.Off k1))))), (115, .w (.c (.ptr 0 0 0))), (116, .w (.c (.v (.int .i64 x3.1.Args)))), (117, .w (.c (.v (.bool (decide ((atD x3.1.Off k1) < x3.1.Args)))))), (120, .w (.agg ((row_AInterval (⟨(atD x3.1.Off k1), (atD ((atD x2.1.Funcs x2.2.1).Slots) k1).Size⟩ : AInterval)).map .v))), (121, .w (.c (.ptr 0 0 1))), (122, .w (.c (.v (.int .i64 x3.1.Size)))), (123, .w (.c (.v (.bool x6)))), (124, .w (.c (.v (.bool (!x6)))))], [some (.bx 48 ((row_ALayout x3.1).map .v)), some (.bx 60 [.v (.int .i64 (atD x3.1.Off k1)), .v (.int .i64 ((atD ((atD x2.1.Funcs x2.2.1).Slots) k1).Size))])]⟩ : St)) (j0 := 0) (St.le_sub ⟨rfl, rfl, rfl, rfl, rfl, rfl, rfl, rfl, rfl, rfl, rfl, rfl, rfl, rfl, rfl, rfl, rfl, rfl, trivial⟩ ⟨rfl, rfl, trivial⟩ rfl) ?_
                        rintro n2 again2 ih_again2 j1
                        refine VS.seq ?_
                        refine VS.seq ?_
                        refine VS.region ?_
                        refine X.lk ?_
                        refine X.lk ?_
                        refine X.lk ?_
                        refine X.nil ?_
                        refine ES.seq ?_
                        refine VS.cond (fun h20 => ?_) (fun h20 => ?_)
                        · refine VS.skip ?_
                          refine ES.seq ?_
                          refine VS.seq ?_
                          refine VS.block ?_
                          refine VS.seq ?_
                          refine VS.drawn ?_
                          refine X.lk ?_
                          refine X.lk ?_
                          refine X.lk ?_
                          refine X.lk ?_
                          refine X.idxT (fun h21 => ?_)
                          refine X.lk ?_
                          refine X.lk ?_
                          refine X.lk ?_
                          refine X.idxT (fun h22 => ?_)
                          refine X.lk ?_
                          refine X.lk ?_
                          refine X.build ?_
                          refine X.call true [] [] (r03_Overlap_ok (⟨(atD x3.1.Off k1), (atD ((atD x2.1.Funcs x2.2.1).Slots) k1).Size⟩ : AInterval) (⟨(atD x3.1.Off j1), (atD ((atD x2.1.Funcs x2.2.1).Slots) j1).Size⟩ : AInterval)) (fun x7 => ?_)
                          refine X.nilD ?_ (by kernel_rfl)
                          refine ES.seq ?_
                          refine VS.cond (fun h23 => ?_) (fun h23 => ?_)
                          · refine VS.seq ?_
                            refine VS.region ?_
                            refine X.lk ?_
                            refine X.nil ?_
                            refine ES.seq ?_
                            refine VS.ret ?_
                            refine ES.blkR ?_
                            refine ES.thnR ?_
                            refine ES.thnR ?_
                            refine ES.blkR ?_
                            refine ES.blkR ?_
                            refine ES.thnR ?_
                            refine ES.thnR ?_
                            refine ES.blkR ?_
                            refine ES.thnR ?_
                            refine ES.ret ?_
                            exact Ret.clo [.c (.v (.bool false))] ⟨rfl, trivial⟩ trivial
                          · refine VS.skip ?_
                            refine ES.blkN ?_
                            refine ES.seq ?_
                            refine VS.region ?_
                            refine X.lk ?_
                            refine X.ck fun h24 => ?_
                            refine X.lk ?_
                            refine X.nil ?_
                            exact ES.go ih_again2 (j1 + 1) (St.le_sub ⟨rfl, rfl, rfl, rfl, rfl, rfl, rfl, rfl, rfl, rfl, rfl, rfl, rfl, rfl, rfl, rfl, rfl, rfl, trivial⟩ ⟨rfl, rfl, trivial⟩ rfl)
                        · refine VS.exit ?_
                          refine ES.thnE ?_
                          refine ES.thnE ?_
                          refine ES.blkE ?_
                          refine ES.blkN ?_
                          refine ES.seq ?_
                          refine VS.region ?_
                          refine X.lk ?_
                          refine X.ck fun h25 => ?_
                          refine X.lk ?_
                          refine X.nil ?_
                          exact ES.go ih_again1 (k1 + 1) (St.le_sub ⟨rfl, rfl, rfl, trivial⟩ ⟨rfl, trivial⟩ rfl)
                · refine VS.exit ?_
                  refine ES.thnE ?_
                  refine ES.thnE ?_
                  refine ES.blkE ?_
                  refine ES.seq ?_
                  refine VS.seq ?_
                  refine VS.region ?_
                  refine X.lk ?_
                  refine X.nil ?_
                  refine ES.seq ?_
                  refine VS.ret ?_
                  refine ES.ret ?_
                  exact Ret.clo [.c (.v (.bool true))] ⟨rfl, trivial⟩ trivial
set_option maxHeartbeats 4000000 in
theorem law24_PackOverflows_ok (extra1 : Int) : ∀ r : Bool, law24_PackOverflows extra1 r → FCalls Try.prog 7 [] [.c (.v (.int .i8 extra1))] (.w (.c (.v (.bool r)))) [] [] := by
  refine fnS 77 ?_
  unfold law24_PackOverflows
  refine VS.seq ?_
  refine VS.region ?_
  refine X.lk ?_
  refine X.nil ?_
  refine ES.seq ?_
  refine VS.seq ?_
  refine VS.seq ?_
  refine VS.region ?_
  refine X.call true [] [] law24_awake_ok (fun x1 => ?_)
  refine X.lk ?_
  refine X.nil ?_
  refine ES.seq ?_
  refine VS.cond (fun h1 => ?_) (fun h1 => ?_)
  · refine VS.seq ?_
    refine VS.region ?_
    refine X.lk ?_
    refine X.nil ?_
    refine ES.seq ?_
    refine VS.ret ?_
    refine ES.thnR ?_
    refine ES.ret ?_
    exact Ret.clo [.c (.v (.bool false))] ⟨rfl, trivial⟩ trivial
  · refine VS.skip ?_
    refine ES.seq ?_
    refine VS.seq ?_
    refine VS.region ?_
    refine X.lk ?_
    refine X.convI fun h2 => ?_
    refine X.remS fun h3 => ?_
    refine X.ck fun h4 => ?_
    refine X.lk ?_
    refine X.nil ?_
    refine ES.seq ?_
    refine VS.seq ?_
    refine VS.region ?_
    refine X.lk ?_
    refine X.nil ?_
    refine ES.seq ?_
    refine VS.seq ?_
    refine VS.seq ?_
    refine VS.region ?_
    refine X.lk ?_
    refine X.nil ?_
    refine ES.seq ?_
    refine VS.block ?_
    refine VS.loop (fun jj : Int × List ASlot => (⟨[(3, .w (.c (.v (.int .i64 ((127 : Int) + (Int.tmod extra1 3)))))), (4, .w (.c (.mref 0))), (5, .w (.c (.v (.int .i64 jj.1))))], [some (.sl 57 2 false (jj.2.map row_ASlot))]⟩ : St)) (j0 := (0, ([] : List ASlot))) ((St.le_keep _ [3, 4, 5]).trans ((St.le_adopt _ 4 0 57 2 rfl rfl).trans (St.le_sub ⟨rfl, rfl, rfl, trivial⟩ ⟨rfl, trivial⟩ rfl))) ?_
    rintro n1 again1 ih_again1 ⟨k1, s1⟩
    refine VS.seq ?_
    refine VS.seq ?_
    refine VS.region ?_
    refine X.lk ?_
    refine X.lk ?_
    refine X.lk ?_
    refine X.nil ?_
    refine ES.seq ?_
    refine VS.cond (fun h5 => ?_) (fun h5 => ?_)
    · refine VS.skip ?_
      refine ES.seq ?_
      refine VS.seq ?_
      refine VS.block ?_
      refine VS.region ?_
      refine X.lk ?_
      refine X.build ?_
      refine X.bs 1 ([(⟨8, 16777216⟩ : ASlot)] : List ASlot) row_ASlot ?_
      refine X.appMM 2 (l := s1) (l' := ([(⟨8, 16777216⟩ : ASlot)] : List ASlot)) (fun h6 => ?_)
      refine X.lk ?_
      refine X.nil ?_
      refine ES.blkN ?_
      refine ES.seq ?_
      refine VS.region ?_
      refine X.lk ?_
      refine X.ck fun h7 => ?_
      refine X.lk ?_
      refine X.nil ?_
      exact ES.go ih_again1 ((k1 + 1), (s1 ++ ([(⟨8, 16777216⟩ : ASlot)] : List ASlot))) ((St.le_mvB _ 2 0 rfl rfl rfl rfl).trans (St.le_sub ⟨rfl, rfl, rfl, trivial⟩ ⟨rfl, trivial⟩ rfl))
    · refine VS.exit ?_
      refine ES.thnE ?_
      refine ES.thnE ?_
      refine ES.blkE ?_
      refine ES.seq ?_
      refine VS.seq ?_
      refine VS.weak (St.le_tree _ 4 0 rfl rfl) ?_
      refine VS.region ?_
      refine X.lk ?_
      refine X.build ?_
      refine X.bsT 1 ([(⟨23, 0, 0, 0, 0⟩ : AInstr)] : List AInstr) row_AInstr ?_
      refine X.build ?_
      refine X.bs 2 ([(⟨0, s1, ([(⟨23, 0, 0, 0, 0⟩ : AInstr)] : List AInstr)⟩ : AFunc)] : List AFunc) row_AFunc ?_
      refine X.build ?_
      refine X.alloc 3 ?_
      refine X.st ?_
      refine X.nil ?_
      refine ES.seq ?_
      refine VS.seq ?_
      refine VS.region ?_
      refine X.lk ?_
      refine X.call true [(2, .sl 35 3 false (([(⟨0, s1, ([(⟨23, 0, 0, 0, 0⟩ : AInstr)] : List AInstr)⟩ : AFunc)] : List AFunc).map row_AFunc))] [] (pack_Baseline_ok (⟨([(⟨0, s1, ([(⟨23, 0, 0, 0, 0⟩ : AInstr)] : List AInstr)⟩ : AFunc)] : List AFunc)⟩ : AProgram) 0 16777216) (fun x2 => ?_) (hn := ⟨rfl, trivial⟩)
      refine X.lk ?_
      refine X.lk ?_
      refine X.lk ?_
      refine X.alloc 4 ?_
      refine X.st ?_
      refine X.lk ?_
      refine X.nil ?_
      refine ES.seq ?_
      refine VS.seq ?_
      refine VS.region ?_
      refine X.lk ?_
      refine X.call true [(2, .sl 35 3 true (([(⟨0, s1, ([(⟨23, 0, 0, 0, 0⟩ : AInstr)] : List AInstr)⟩ : AFunc)] : List AFunc).map row_AFunc))] [] (r24_Baseline_ok (⟨([(⟨0, s1, ([(⟨23, 0, 0, 0, 0⟩ : AInstr)] : List AInstr)⟩ : AFunc)] : List AFunc)⟩ : AProgram) 0 16777216) (fun x3 => ?_) (hn := ⟨rfl, trivial⟩)
      refine X.lk ?_
      refine X.lk ?_
      refine X.lk ?_
      refine X.alloc 5 ?_
      refine X.st ?_
      refine X.lk ?_
      refine X.nil ?_
      refine ES.seq ?_
      refine VS.seq ?_
      refine VS.region ?_
      refine X.lk ?_
      refine X.make 6 (α := Int) iRow (fun h8 => ?_)
      refine X.lk ?_
      refine X.nil ?_
      refine ES.seq ?_
      refine VS.seq ?_
      refine VS.region ?_
      refine X.lk ?_
      refine X.lk ?_
      refine X.call true [(2, .sl 35 3 true (([(⟨0, s1, ([(⟨23, 0, 0, 0, 0⟩ : AInstr)] : List AInstr)⟩ : AFunc)] : List AFunc).map row_AFunc)), (6, .sl 3 1 false ((repD ((127 : Int) + (Int.tmod extra1 3)) : List Int).map iRow))] [] (pack_Finish_ok (⟨([(⟨0, s1, ([(⟨23, 0, 0, 0, 0⟩ : AInstr)] : List AInstr)⟩ : AFunc)] : List AFunc)⟩ : AProgram) 0 16777216 (repD ((127 : Int) + (Int.tmod extra1 3)) : List Int)) (fun x4 => ?_) (hn := ⟨rfl, ⟨rfl, trivial⟩⟩)
      refine X.lk ?_
      refine X.lk ?_
      refine X.lk ?_
      refine X.alloc 7 ?_
      refine X.st ?_
      refine X.lk ?_
      refine X.nil ?_
      refine ES.seq ?_
      refine VS.seq ?_
      refine VS.region ?_
      refine X.lk ?_
      refine X.lk ?_
      refine X.lk ?_
      refine X.lk ?_
      refine X.bif (b := (decide (x2.2 = x3.2))) (fun h9 => ?_) (fun h9 => ?_)
      · refine X.gY h9 ?_
        refine X.lk ?_
        refine X.gY h9 ?_
        refine X.lk ?_
        refine X.gY h9 ?_
        refine X.call true [] [] (r24_Same_ok x2.1 x3.1) (fun x5 => ?_)
        refine X.pT h9 ?_
        refine X.lk ?_
        refine X.bif (b := x5) (fun h10 => ?_) (fun h10 => ?_)
        · refine X.gY h10 ?_
          refine X.lk ?_
          refine X.gY h10 ?_
          refine X.lk ?_
          refine X.gY h10 ?_
          refine X.lk ?_
          refine X.gY h10 ?_
          refine X.lk ?_
          refine X.gY h10 ?_
          refine X.lk ?_
          refine X.pT h10 ?_
          refine X.lk ?_
          refine X.bif (b := ((decide (x2.2 = 0)) == (decide (((127 : Int) + (Int.tmod extra1 3)) ≤ 127)))) (fun h11 => ?_) (fun h11 => ?_)
          · refine X.gY h11 ?_
            refine X.lk ?_
            refine X.gY h11 ?_
            refine X.lk ?_
            refine X.pT h11 ?_
            refine X.lk ?_
            refine X.bif (b := (decide (x4.2 = 0))) (fun h12 => ?_) (fun h12 => ?_)
            · refine X.gY h12 ?_
              refine X.lk ?_
              refine X.gY h12 ?_
              refine X.lk ?_
              refine X.gY h12 ?_
              refine X.lk ?_
              refine X.pT h12 ?_
              refine X.lk ?_
              refine X.nil ?_
              refine ES.seq ?_
              refine VS.ret ?_
              refine ES.ret ?_
              exact Ret.clo [.c (.v (.bool (decide (x4.1.Size = 16777216))))] ⟨rfl, trivial⟩ trivial
            · refine X.gN h12 ?_
              refine X.gN h12 ?_
              refine X.gN h12 ?_
              refine X.pF h12 ?_
              refine X.lk ?_
              refine X.nil ?_
              refine ES.seq ?_
              refine VS.ret ?_
              refine ES.ret ?_
              exact Ret.clo [.c (.v (.bool false))] ⟨rfl, trivial⟩ trivial
          · refine X.gN h11 ?_
            refine X.gN h11 ?_
            refine X.pF h11 ?_
            refine X.lk ?_
            refine X.gN rfl ?_
            refine X.gN rfl ?_
            refine X.gN rfl ?_
            refine X.pF rfl ?_
            refine X.lk ?_
            refine X.nil ?_
            refine ES.seq ?_
            refine VS.ret ?_
            refine ES.ret ?_
            exact Ret.clo [.c (.v (.bool false))] ⟨rfl, trivial⟩ trivial
        · refine X.gN h10 ?_
          refine X.gN h10 ?_
          refine X.gN h10 ?_
          refine X.gN h10 ?_
          refine X.gN h10 ?_
          refine X.pF h10 ?_
          refine X.lk ?_
          refine X.gN rfl ?_
          refine X.gN rfl ?_
          refine X.pF rfl ?_
          refine X.lk ?_
          refine X.gN rfl ?_
          refine X.gN rfl ?_
          refine X.gN rfl ?_
          refine X.pF rfl ?_
          refine X.lk ?_
          refine X.nil ?_
          refine ES.seq ?_
          refine VS.ret ?_
          refine ES.ret ?_
          exact Ret.clo [.c (.v (.bool false))] ⟨rfl, trivial⟩ trivial
      · refine X.gN h9 ?_
        refine X.gN h9 ?_
        refine X.gN h9 ?_
        refine X.pF h9 ?_
        refine X.lk ?_
        refine X.gN rfl ?_
        refine X.gN rfl ?_
        refine X.gN rfl ?_
        refine X.gN rfl ?_
        refine X.gN rfl ?_
        refine X.pF rfl ?_
        refine X.lk ?_
        refine X.gN rfl ?_
        refine X.gN rfl ?_
        refine X.pF rfl ?_
        refine X.lk ?_
        refine X.gN rfl ?_
        refine X.gN rfl ?_
        refine X.gN rfl ?_
        refine X.pF rfl ?_
        refine X.lk ?_
        refine X.nil ?_
        refine ES.seq ?_
        refine VS.ret ?_
        refine ES.ret ?_
        exact Ret.clo [.c (.v (.bool false))] ⟨rfl, trivial⟩ trivial
end Go.Proofs.Ytbppgdffochdmaa.Q
