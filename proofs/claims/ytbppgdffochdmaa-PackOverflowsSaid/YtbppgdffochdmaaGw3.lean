/- Walks of functions: the code does what the lifted text says (written by a program). -/
import Derived.Test.YtbppgdffochdmaaGw2
set_option linter.unusedVariables false
set_option linter.unusedSimpArgs false
set_option maxRecDepth 8000
namespace Go.Proofs.Ytbppgdffochdmaa.Q
open Go.RowKit
set_option maxHeartbeats 4000000 in
theorem pack_Baseline_ok (p1 : AProgram) (i1 : Int) (align1 : Int) : ∀ r : ALayout × Int, pack_Baseline p1 i1 align1 r → FCalls Try.prog 27 [] [.agg ((row_AProgram p1).map .v), .c (.v (.int .i64 i1)), .c (.v (.int .i64 align1))] (.tup [.agg ((row_ALayout r.1).map .v), .c (.v (.int .i64 r.2))]) [] [] := by
  refine fnS 63 ?_
  unfold pack_Baseline
  refine VS.seq ?_
  refine VS.region ?_
  refine X.boxR 0 ?_
  refine X.allocR 1 ?_
  refine X.lk ?_
  refine X.nil ?_
  refine ES.seq ?_
  refine VS.seq ?_
  refine VS.region ?_
  refine X.lk ?_
  refine X.lk ?_
  refine X.call true [] [] (pack_Args_ok p1 i1) (fun x1 => ?_)
  refine X.buildR ?_
  refine X.allocR 2 ?_
  refine X.stR ?_
  refine X.nil ?_
  refine ES.seq ?_
  refine VS.seq ?_
  refine VS.region ?_
  refine X.lk ?_
  refine X.lk ?_
  refine X.lk ?_
  refine X.nil ?_
  refine ES.seq ?_
  refine VS.seq ?_
  refine VS.seq ?_
  refine VS.region ?_
  refine X.lk ?_
  refine X.lk ?_
  refine X.lk ?_
  refine X.idxT (fun h1 => ?_)
  refine X.lk ?_
  refine X.lk ?_
  refine X.lenT ?_
  refine X.lk ?_
  refine X.nil ?_
  refine ES.seq ?_
  refine VS.block ?_
  refine VS.loop (fun jj : Int × Int × List Int => (⟨[(2, .w (.c (.v (.int .i64 align1)))), (6, .w (.c (.ptr 0 0 0))), (8, .w (.c (.ptr 1 0 0))), (9, .w (.c (.v (.int .i64 jj.1)))), (25, .w (.c (.v (.tree (((atD p1.Funcs i1).Slots).map row_ASlot))))), (26, .w (.c (.v (.int .i64 (((atD p1.Funcs i1).Slots).length : Int))))), (27, .w (.c (.v (.int .i64 jj.2.1))))], [some (.bx 48 [.v (.int .i64 0), .v (.int .i64 0), .v .nil]), some (.bx 48 [.v (.int .i64 x1), .v (.int .i64 0), .mref 2]), some (.sl 3 1 false (jj.2.2.map iRow))]⟩ : St)) (j0 := (x1, 0, ([] : List Int))) ((St.le_keep _ [2, 6, 8, 9, 25, 26, 27]).trans ((St.le_drop _ 0 (Nat.le_of_ble_eq_true rfl)).trans ((St.le_mvB _ 1 0 rfl rfl rfl rfl).trans ((St.le_mvB _ 2 1 rfl rfl rfl rfl).trans ((St.le_adoptC _ 1 2 2 3 1 rfl rfl rfl rfl).trans (St.le_sub ⟨rfl, rfl, rfl, rfl, rfl, rfl, rfl, trivial⟩ ⟨rfl, rfl, rfl, trivial⟩ rfl)))))) ?_
  rintro n1 again1 ih_again1 ⟨end1, x2, own1⟩
  refine VS.seq ?_
  refine VS.region ?_
  refine X.lk ?_
  refine X.nil ?_
  refine ES.seq ?_
  refine VS.seq ?_
  refine VS.cond (fun h2 => ?_) (fun h2 => ?_)
  · refine VS.skip ?_
    refine ES.seq ?_
    refine VS.seq ?_
    refine VS.block ?_
    refine VS.seq ?_
    refine VS.region ?_
    refine X.idxT (fun h3 => ?_)
    refine X.lk ?_
    refine X.allocR 3 ?_
    refine X.stR ?_
    refine X.nil ?_
    refine ES.seq ?_
    refine VS.seq ?_
    refine VS.region ?_
    refine X.lk ?_
    refine X.lk ?_
    refine X.lk ?_
    refine X.call true [] [] (extent_Up_ok end1 ((atD ((atD p1.Funcs i1).Slots) x2).Align)) (fun x3 => ?_)
    refine X.lk ?_
    refine X.lk ?_
    refine X.lk ?_
    refine X.lk ?_
    refine X.lk ?_
    refine X.nil ?_
    refine ES.seq ?_
    refine VS.join (fun jj : Int × Int => (⟨[(2, .w (.c (.v (.int .i64 align1)))), (6, .w (.c (.ptr 0 0 0))), (8, .w (.c (.ptr 1 0 0))), (9, .w (.c (.v (.int .i64 jj.1)))), (12, .w (.c (.v (.int .i64 x3.1)))), (13, .w (.c (.v (.int .i64 jj.2)))), (25, .w (.c (.v (.tree (((atD p1.Funcs i1).Slots).map row_ASlot))))), (26, .w (.c (.v (.int .i64 (((atD p1.Funcs i1).Slots).length : Int))))), (27, .w (.c (.v (.int .i64 x2))))], [some (.bx 48 [.v (.int .i64 0), .v (.int .i64 0), .v .nil]), some (.bx 48 [.v (.int .i64 x1), .v (.int .i64 0), .mref 2]), some (.sl 3 1 false (own1.map iRow))]⟩ : St)) ?_ ?_
    · rintro ⟨end2, e1⟩
      refine VS.seq ?_
      refine VS.seq ?_
      refine VS.region ?_
      refine X.lk ?_
      refine X.lk ?_
      refine X.nil ?_
      refine ES.seq ?_
      refine VS.cond (fun h4 => ?_) (fun h4 => ?_)
      · refine VS.seq ?_
        refine VS.region ?_
        refine X.buildR ?_
        refine X.stR ?_
        refine X.lk ?_
        refine X.nil ?_
        refine ES.seq ?_
        refine VS.ret ?_
        refine ES.thnR ?_
        refine ES.blkR ?_
        refine ES.thnR ?_
        refine ES.thnR ?_
        refine ES.blkR ?_
        refine ES.thnR ?_
        refine ES.ret ?_
        exact Ret.weak (St.le_ncell _ 0 2 rfl rfl) (Ret.clo [.agg ((row_ALayout (⟨0, 0, ([] : List Int)⟩ : ALayout)).map .v), .c (.v (.int .i64 9))] ⟨⟨_, _, _, _, _, _, rfl, rfl, fits rfl, rfl⟩, rfl, trivial⟩ trivial)
      · refine VS.skip ?_
        refine ES.seq ?_
        refine VS.region ?_
        refine X.lk ?_
        refine X.lk ?_
        refine X.lk ?_
        refine X.bs 3 ([x3.1] : List Int) iRow ?_
        refine X.appMM 4 (l := own1) (l' := ([x3.1] : List Int)) (fun h5 => ?_)
        refine X.lk ?_
        refine X.stR ?_
        refine X.nil ?_
        refine ES.blkN ?_
        refine ES.seq ?_
        refine VS.region ?_
        refine X.ck fun h6 => ?_
        refine X.lk ?_
        refine X.nil ?_
        exact ES.go ih_again1 (end2, (x2 + 1), (own1 ++ ([x3.1] : List Int))) ((St.le_mvB _ 4 2 rfl rfl rfl rfl).trans (St.le_sub ⟨rfl, rfl, rfl, rfl, rfl, rfl, rfl, trivial⟩ ⟨rfl, rfl, rfl, trivial⟩ rfl))
    · intro k1 ih_k1
      refine VS.seq ?_
      refine VS.region ?_
      refine X.lk ?_
      refine X.lk ?_
      refine X.nil ?_
      refine ES.seq ?_
      refine VS.cond (fun h7 => ?_) (fun h7 => ?_)
      · refine VS.region ?_
        refine X.lk ?_
        refine X.lk ?_
        refine X.lk ?_
        refine X.call true [] [] (extent_Add_ok x3.1 ((atD ((atD p1.Funcs i1).Slots) x2).Size)) (fun x4 => ?_)
        refine X.lk ?_
        refine X.lk ?_
        refine X.lk ?_
        refine X.lk ?_
        refine X.lk ?_
        refine X.nil ?_
        exact ES.jn ih_k1 (x4.1, x4.2) (St.le_sub ⟨rfl, rfl, rfl, rfl, rfl, rfl, rfl, rfl, rfl, trivial⟩ ⟨rfl, rfl, rfl, trivial⟩ rfl)
      · refine VS.skip ?_
        exact ES.jn ih_k1 (end1, x3.2) (St.le_sub ⟨rfl, rfl, rfl, rfl, rfl, rfl, rfl, rfl, rfl, trivial⟩ ⟨rfl, rfl, rfl, trivial⟩ rfl)
  · refine VS.exit ?_
    refine ES.thnE ?_
    refine ES.thnE ?_
    refine ES.blkE ?_
    refine ES.seq ?_
    refine VS.seq ?_
    refine VS.region ?_
    refine X.lk ?_
    refine X.lk ?_
    refine X.lk ?_
    refine X.call true [(2, .sl 3 1 false (own1.map iRow))] [] (pack_sized_ok (⟨x1, 0, own1⟩ : ALayout) end1 align1) (fun x5 => ?_) (hn := ⟨rfl, trivial⟩)
    refine X.lk ?_
    refine X.lk ?_
    refine X.stR ?_
    refine X.lk ?_
    refine X.nil ?_
    refine ES.seq ?_
    refine VS.ret ?_
    refine ES.ret ?_
    exact Ret.clo [.agg ((row_ALayout x5.1).map .v), .c (.v (.int .i64 x5.2))] ⟨⟨_, _, _, _, _, _, rfl, rfl, fits rfl, rfl⟩, rfl, trivial⟩ trivial
set_option maxHeartbeats 4000000 in
theorem r24_Args_ok (p1 : AProgram) (i1 : Int) : ∀ r : Int, r24_Args p1 i1 r → FCalls Try.prog 31 [] [.agg ((row_AProgram p1).map .v), .c (.v (.int .i64 i1))] (.w (.c (.v (.int .i64 r)))) [] [] := by
  refine fnS 51 ?_
  unfold r24_Args
  refine VS.seq ?_
  refine VS.region ?_
  refine X.box 0 ?_
  refine X.lk ?_
  refine X.nil ?_
  refine ES.seq ?_
  refine VS.seq ?_
  refine VS.region ?_
  refine X.lk ?_
  refine X.nil ?_
  refine ES.seq ?_
  refine VS.seq ?_
  refine VS.region ?_
  refine X.lk ?_
  refine X.lk ?_
  refine X.lk ?_
  refine X.idxT (fun h1 => ?_)
  refine X.lk ?_
  refine X.lk ?_
  refine X.lk ?_
  refine X.nil ?_
  refine ES.seq ?_
  refine VS.seq ?_
  refine VS.seq ?_
  refine VS.region ?_
  refine X.lk ?_
  refine X.nil ?_
  refine ES.seq ?_
  refine VS.block ?_
  refine VS.loop (fun jj : Int × Int => (⟨[(2, .w (.c (.ptr 0 0 0))), (5, .w (.c (.v (.int .i64 jj.1)))), (6, .w (.c (.v (.tree (((atD p1.Funcs i1).Code).map row_AInstr))))), (7, .w (.c (.v (.int .i64 jj.2))))], [some (.bx 27 ((row_AProgram p1).map .v))]⟩ : St)) (j0 := (0, 0)) (St.le_sub ⟨rfl, rfl, rfl, rfl, trivial⟩ ⟨rfl, trivial⟩ rfl) ?_
  rintro n2 again1 ih_again1 ⟨n1, k1⟩
  refine VS.seq ?_
  refine VS.seq ?_
  refine VS.region ?_
  refine X.lk ?_
  refine X.lk ?_
  refine X.lenT ?_
  refine X.lk ?_
  refine X.nil ?_
  refine ES.seq ?_
  refine VS.cond (fun h2 => ?_) (fun h2 => ?_)
  · refine VS.skip ?_
    refine ES.seq ?_
    refine VS.seq ?_
    refine VS.block ?_
    refine VS.seq ?_
    refine VS.region ?_
    refine X.lk ?_
    refine X.lk ?_
    refine X.idxT (fun h3 => ?_)
    refine X.lk ?_
    refine X.lk ?_
    refine X.nil ?_
    refine ES.seq ?_
    refine VS.block ?_
    refine VS.seq ?_
    refine VS.region ?_
    refine X.lk ?_
    refine X.lk ?_
    refine X.nil ?_
    refine ES.seq ?_
    refine VS.cond (fun h4 => ?_) (fun h4 => ?_)
    · refine VS.region ?_
      refine X.lk ?_
      refine X.lk ?_
      refine X.lk ?_
      refine X.idxT (fun h5 => ?_)
      refine X.lk ?_
      refine X.lk ?_
      refine X.ck fun h6 => ?_
      refine X.max ?_
      refine X.lk ?_
      refine X.nil ?_
      refine ES.blkN ?_
      refine ES.blkN ?_
      refine ES.seq ?_
      refine VS.region ?_
      refine X.lk ?_
      refine X.ck fun h7 => ?_
      refine X.lk ?_
      refine X.nil ?_
      exact ES.go ih_again1 ((max n1 (((atD ((atD p1.Funcs i1).Code) k1).A) + 1)), (k1 + 1)) (St.le_sub ⟨rfl, rfl, rfl, rfl, trivial⟩ ⟨rfl, trivial⟩ rfl)
    · refine VS.seq ?_
      refine VS.region ?_
      refine X.lk ?_
      refine X.lk ?_
      refine X.nil ?_
      refine ES.seq ?_
      refine VS.cond (fun h8 => ?_) (fun h8 => ?_)
      · refine VS.drawn ?_
        refine X.lk ?_
        refine X.lk ?_
        refine X.lk ?_
        refine X.lk ?_
        refine X.lk ?_
        refine X.idxT (fun h9 => ?_)
        refine X.lk ?_
        refine X.lk ?_
        refine X.idxT (fun h10 => ?_)
        refine X.lk ?_
        refine X.lk ?_
        refine X.max ?_
        refine X.lk ?_
        refine X.nilD ?_ (by kernel_rfl)
        refine ES.blkN ?_
        refine ES.blkN ?_
        refine ES.seq ?_
        refine VS.region ?_
        refine X.lk ?_
        refine X.ck fun h11 => ?_
        refine X.lk ?_
        refine X.nil ?_
        exact ES.go ih_again1 ((max n1 ((atD p1.Funcs ((atD ((atD p1.Funcs i1).Code) k1).A)).Params)), (k1 + 1)) (St.le_sub ⟨rfl, rfl, rfl, rfl, trivial⟩ ⟨rfl, trivial⟩ rfl)
      · refine VS.skip ?_
        refine ES.blkN ?_
        refine ES.blkN ?_
        refine ES.seq ?_
        refine VS.region ?_
        refine X.lk ?_
        refine X.ck fun h12 => ?_
        refine X.lk ?_
        refine X.nil ?_
        exact ES.go ih_again1 (n1, (k1 + 1)) (St.le_sub ⟨rfl, rfl, rfl, rfl, trivial⟩ ⟨rfl, trivial⟩ rfl)
  · refine VS.exit ?_
    refine ES.thnE ?_
    refine ES.thnE ?_
    refine ES.blkE ?_
    refine ES.seq ?_
    refine VS.seq ?_
    refine VS.region ?_
    refine X.lk ?_
    refine X.ck fun h13 => ?_
    refine X.lk ?_
    refine X.nil ?_
    refine ES.seq ?_
    refine VS.ret ?_
    refine ES.ret ?_
    exact Ret.clo [.c (.v (.int .i64 (n1 * 16)))] ⟨rfl, trivial⟩ trivial
set_option maxHeartbeats 4000000 in
theorem r03_Bound_ok (n1 : Int) : ∀ r : Bool, r03_Bound n1 r → FCalls Try.prog 83 [] [.c (.v (.int .i64 n1))] (.w (.c (.v (.bool r)))) [] [] := by
  refine fnS 9 ?_
  unfold r03_Bound
  refine VS.seq ?_
  refine VS.region ?_
  refine X.lk ?_
  refine X.nil ?_
  refine ES.seq ?_
  refine VS.seq ?_
  refine VS.region ?_
  refine X.lk ?_
  refine X.lk ?_
  refine X.lk ?_
  refine X.bif (b := (decide (0 ≤ n1))) (fun h1 => ?_) (fun h1 => ?_)
  · refine X.gY h1 ?_
    refine X.lk ?_
    refine X.gY h1 ?_
    refine X.lk ?_
    refine X.pT h1 ?_
    refine X.lk ?_
    refine X.nil ?_
    refine ES.seq ?_
    refine VS.ret ?_
    refine ES.ret ?_
    exact Ret.clo [.c (.v (.bool (decide (n1 ≤ 2147483647))))] ⟨rfl, trivial⟩ trivial
  · refine X.gN h1 ?_
    refine X.gN h1 ?_
    refine X.pF h1 ?_
    refine X.lk ?_
    refine X.nil ?_
    refine ES.seq ?_
    refine VS.ret ?_
    refine ES.ret ?_
    exact Ret.clo [.c (.v (.bool false))] ⟨rfl, trivial⟩ trivial
set_option maxHeartbeats 4000000 in
theorem r03_Up_ok (n1 : Int) (align1 : Int) : ∀ r : Int × Int, r03_Up n1 align1 r → FCalls Try.prog 60 [] [.c (.v (.int .i64 n1)), .c (.v (.int .i64 align1))] (.tup [.c (.v (.int .i64 r.1)), .c (.v (.int .i64 r.2))]) [] [] := by
  refine fnS 30 ?_
  unfold r03_Up
  refine VS.seq ?_
  refine VS.region ?_
  refine X.lk ?_
  refine X.lk ?_
  refine X.nil ?_
  refine ES.seq ?_
  refine VS.seq ?_
  refine VS.seq ?_
  refine VS.region ?_
  refine X.lk ?_
  refine X.call true [] [] (r03_Bound_ok n1) (fun x1 => ?_)
  refine X.lk ?_
  refine X.lk ?_
  refine X.bif (b := (!x1)) (fun h1 => ?_) (fun h1 => ?_)
  · refine X.gN h1 ?_
    refine X.gN h1 ?_
    refine X.gN h1 ?_
    refine X.pT h1 ?_
    refine X.nil ?_
    refine ES.seq ?_
    refine VS.condT rfl ?_
    refine VS.seq ?_
    refine VS.region ?_
    refine X.lk ?_
    refine X.lk ?_
    refine X.nil ?_
    refine ES.seq ?_
    refine VS.ret ?_
    refine ES.thnR ?_
    refine ES.ret ?_
    exact Ret.clo [.c (.v (.int .i64 0)), .c (.v (.int .i64 4))] ⟨rfl, rfl, trivial⟩ trivial
  · refine X.gY h1 ?_
    refine X.lk ?_
    refine X.gY h1 ?_
    refine X.call true [] [] (r03_Power_ok align1) (fun x2 => ?_)
    refine X.gY h1 ?_
    refine X.lk ?_
    refine X.pF h1 ?_
    refine X.nil ?_
    refine ES.seq ?_
    refine VS.cond (fun h2 => ?_) (fun h2 => ?_)
    · refine VS.seq ?_
      refine VS.region ?_
      refine X.lk ?_
      refine X.lk ?_
      refine X.nil ?_
      refine ES.seq ?_
      refine VS.ret ?_
      refine ES.thnR ?_
      refine ES.ret ?_
      exact Ret.clo [.c (.v (.int .i64 0)), .c (.v (.int .i64 4))] ⟨rfl, rfl, trivial⟩ trivial
    · refine VS.skip ?_
      refine ES.seq ?_
      refine VS.seq ?_
      refine VS.region ?_
      refine X.lk ?_
      refine X.lk ?_
      refine X.nil ?_
      refine ES.seq ?_
      refine VS.join (fun (m1 : Int) => (⟨[(6, .w (.c (.v (.int .i64 m1))))], []⟩ : St)) ?_ ?_
      · rintro m1
        refine VS.seq ?_
        refine VS.seq ?_
        refine VS.region ?_
        refine X.lk ?_
        refine X.lk ?_
        refine X.nil ?_
        refine ES.seq ?_
        refine VS.cond (fun h3 => ?_) (fun h3 => ?_)
        · refine VS.seq ?_
          refine VS.region ?_
          refine X.lk ?_
          refine X.lk ?_
          refine X.nil ?_
          refine ES.seq ?_
          refine VS.ret ?_
          refine ES.thnR ?_
          refine ES.ret ?_
          exact Ret.clo [.c (.v (.int .i64 0)), .c (.v (.int .i64 9))] ⟨rfl, rfl, trivial⟩ trivial
        · refine VS.skip ?_
          refine ES.seq ?_
          refine VS.seq ?_
          refine VS.region ?_
          refine X.lk ?_
          refine X.lk ?_
          refine X.lk ?_
          refine X.nil ?_
          refine ES.seq ?_
          refine VS.ret ?_
          refine ES.ret ?_
          exact Ret.clo [.c (.v (.int .i64 m1)), .c (.v (.int .i64 0))] ⟨rfl, rfl, trivial⟩ trivial
      · intro k1 ih_k1
        refine VS.seq ?_
        refine VS.region ?_
        refine X.lk ?_
        refine X.lk ?_
        refine X.ck fun h4 => ?_
        refine X.lk ?_
        refine X.nil ?_
        refine ES.seq ?_
        refine VS.cond (fun h5 => ?_) (fun h5 => ?_)
        · refine VS.region ?_
          refine X.lk ?_
          refine X.lk ?_
          refine X.lk ?_
          refine X.ck fun h6 => ?_
          refine X.ck fun h7 => ?_
          refine X.lk ?_
          refine X.ck fun h8 => ?_
          refine X.lk ?_
          refine X.nil ?_
          exact ES.jn ih_k1 ((n1 - (n1 % align1)) + align1) (St.le_sub ⟨rfl, trivial⟩ trivial rfl)
        · refine VS.skip ?_
          exact ES.jn ih_k1 n1 (St.le_sub ⟨rfl, trivial⟩ trivial rfl)
set_option maxHeartbeats 4000000 in
theorem r24_Baseline_ok (p1 : AProgram) (i1 : Int) (align1 : Int) : ∀ r : ALayout × Int, r24_Baseline p1 i1 align1 r → FCalls Try.prog 28 [] [.agg ((row_AProgram p1).map .v), .c (.v (.int .i64 i1)), .c (.v (.int .i64 align1))] (.tup [.agg ((row_ALayout r.1).map .v), .c (.v (.int .i64 r.2))]) [] [] := by
  refine fnS 89 ?_
  unfold r24_Baseline
  refine VS.seq ?_
  refine VS.region ?_
  refine X.box 0 ?_
  refine X.alloc 1 ?_
  refine X.lk ?_
  refine X.nil ?_
  refine ES.seq ?_
  refine VS.seq ?_
  refine VS.region ?_
  refine X.lk ?_
  refine X.lk ?_
  refine X.call true [] [] (r24_Args_ok p1 i1) (fun x1 => ?_)
  refine X.build ?_
  refine X.alloc 2 ?_
  refine X.st ?_
  refine X.nil ?_
  refine ES.seq ?_
  refine VS.seq ?_
  refine VS.region ?_
  refine X.lk ?_
  refine X.lk ?_
  refine X.lk ?_
  refine X.nil ?_
  refine ES.seq ?_
  refine VS.seq ?_
  refine VS.region ?_
  refine X.lk ?_
  refine X.lk ?_
  refine X.lk ?_
  refine X.idxT (fun h1 => ?_)
  refine X.lk ?_
  refine X.lk ?_
  refine X.lk ?_
  refine X.nil ?_
  refine ES.seq ?_
  refine VS.seq ?_
  refine VS.seq ?_
  refine VS.region ?_
  refine X.lk ?_
  refine X.nil ?_
  refine ES.seq ?_
  refine VS.block ?_
  refine VS.loop (fun jj : Int × Int × List Int => (⟨[(2, .w (.c (.v (.int .i64 align1)))), (6, .w (.c (.ptr 0 0 0))), (8, .w (.c (.ptr 1 0 0))), (9, .w (.c (.v (.int .i64 jj.1)))), (10, .w (.c (.v (.tree (((atD p1.Funcs i1).Slots).map row_ASlot))))), (11, .w (.c (.v (.int .i64 jj.2.1))))], [some (.bx 48 [.v (.int .i64 0), .v (.int .i64 0), .v (.tree (([] : List Int).map iRow))]), some (.bx 48 [.v (.int .i64 x1), .v (.int .i64 0), .v (.tree (jj.2.2.map iRow))])]⟩ : St)) (j0 := (x1, 0, ([] : List Int))) ((St.le_drop _ 0 (Nat.le_of_ble_eq_true rfl)).trans ((St.le_mvB _ 1 0 rfl rfl rfl rfl).trans ((St.le_mvB _ 2 1 rfl rfl rfl rfl).trans (St.le_sub ⟨rfl, rfl, rfl, rfl, rfl, rfl, trivial⟩ ⟨rfl, rfl, trivial⟩ rfl)))) ?_
  rintro n1 again1 ih_again1 ⟨end1, k1, Off1⟩
  refine VS.seq ?_
  refine VS.seq ?_
  refine VS.region ?_
  refine X.lk ?_
  refine X.lk ?_
  refine X.lenT ?_
  refine X.lk ?_
  refine X.nil ?_
  refine ES.seq ?_
  refine VS.cond (fun h2 => ?_) (fun h2 => ?_)
  · refine VS.skip ?_
    refine ES.seq ?_
    refine VS.seq ?_
    refine VS.block ?_
    refine VS.seq ?_
    refine VS.region ?_
    refine X.lk ?_
    refine X.lk ?_
    refine X.lk ?_
    refine X.idxT (fun h3 => ?_)
    refine X.lk ?_
    refine X.lk ?_
    refine X.call true [] [] (r03_Up_ok end1 ((atD ((atD p1.Funcs i1).Slots) k1).Align)) (fun x2 => ?_)
    refine X.lk ?_
    refine X.lk ?_
    refine X.lk ?_
    refine X.lk ?_
    refine X.lk ?_
    refine X.nil ?_
    refine ES.seq ?_
    refine VS.seq ?_
    refine VS.seq ?_
    refine VS.region ?_
    refine X.lk ?_
    refine X.lk ?_
    refine X.lk ?_
    refine X.bif (b := (!decide (x2.2 = 0))) (fun h4 => ?_) (fun h4 => ?_)
    · refine X.gN h4 ?_
      refine X.gN h4 ?_
      refine X.gN h4 ?_
      refine X.gN h4 ?_
      refine X.gN h4 ?_
      refine X.gN h4 ?_
      refine X.gN h4 ?_
      refine X.gN h4 ?_
      refine X.pT h4 ?_
      refine X.nil ?_
      refine ES.seq ?_
      refine VS.condT rfl ?_
      refine VS.seq ?_
      refine VS.region ?_
      refine X.build ?_
      refine X.st ?_
      refine X.lk ?_
      refine X.nil ?_
      refine ES.seq ?_
      refine VS.ret ?_
      refine ES.thnR ?_
      refine ES.blkR ?_
      refine ES.thnR ?_
      refine ES.thnR ?_
      refine ES.blkR ?_
      refine ES.thnR ?_
      refine ES.ret ?_
      exact Ret.clo [.agg ((row_ALayout (⟨0, 0, ([] : List Int)⟩ : ALayout)).map .v), .c (.v (.int .i64 9))] ⟨⟨_, _, _, _, _, _, rfl, rfl, fits rfl, rfl⟩, rfl, trivial⟩ trivial
    · refine X.gY h4 ?_
      refine X.lk ?_
      refine X.gY h4 ?_
      refine X.lk ?_
      refine X.gY h4 ?_
      refine X.lk ?_
      refine X.gY h4 ?_
      refine X.idxT (fun h5 => ?_)
      refine X.gY h4 ?_
      refine X.lk ?_
      refine X.gY h4 ?_
      refine X.lk ?_
      refine X.gY h4 ?_
      refine X.ck fun h6 => ?_
      refine X.gY h4 ?_
      refine X.lk ?_
      refine X.pF h4 ?_
      refine X.nil ?_
      refine ES.seq ?_
      refine VS.cond (fun h7 => ?_) (fun h7 => ?_)
      · refine VS.seq ?_
        refine VS.region ?_
        refine X.build ?_
        refine X.st ?_
        refine X.lk ?_
        refine X.nil ?_
        refine ES.seq ?_
        refine VS.ret ?_
        refine ES.thnR ?_
        refine ES.blkR ?_
        refine ES.thnR ?_
        refine ES.thnR ?_
        refine ES.blkR ?_
        refine ES.thnR ?_
        refine ES.ret ?_
        exact Ret.clo [.agg ((row_ALayout (⟨0, 0, ([] : List Int)⟩ : ALayout)).map .v), .c (.v (.int .i64 9))] ⟨⟨_, _, _, _, _, _, rfl, rfl, fits rfl, rfl⟩, rfl, trivial⟩ trivial
      · refine VS.skip ?_
        refine ES.seq ?_
        refine VS.seq ?_
        refine VS.region ?_
        refine X.lk ?_
        refine X.lk ?_
        refine X.appNT 2 (l' := Off1) (fun h8 => ?_)
        refine X.lk ?_
        refine X.bs 3 ([x2.1] : List Int) iRow ?_
        refine X.appMM 4 (l := Off1) (l' := ([x2.1] : List Int)) (fun h9 => ?_)
        refine X.lk ?_
        refine X.nil ?_
        refine ES.seq ?_
        refine VS.seq ?_
        refine VS.region ?_
        refine X.lk ?_
        refine X.lk ?_
        refine X.st ?_
        refine X.nil ?_
        refine ES.seq ?_
        refine VS.region ?_
        refine X.lk ?_
        refine X.lk ?_
        refine X.lk ?_
        refine X.idxT (fun h10 => ?_)
        refine X.lk ?_
        refine X.lk ?_
        refine X.ck fun h11 => ?_
        refine X.lk ?_
        refine X.nil ?_
        refine ES.blkN ?_
        refine ES.seq ?_
        refine VS.region ?_
        refine X.lk ?_
        refine X.ck fun h12 => ?_
        refine X.lk ?_
        refine X.nil ?_
        exact ES.go ih_again1 ((x2.1 + ((atD ((atD p1.Funcs i1).Slots) k1).Size)), (k1 + 1), (Off1 ++ ([x2.1] : List Int))) ((St.le_tcell _ 1 2 4 rfl rfl rfl rfl).trans (St.le_sub ⟨rfl, rfl, rfl, rfl, rfl, rfl, trivial⟩ ⟨rfl, rfl, trivial⟩ rfl))
  · refine VS.exit ?_
    refine ES.thnE ?_
    refine ES.thnE ?_
    refine ES.blkE ?_
    refine ES.seq ?_
    refine VS.seq ?_
    refine VS.region ?_
    refine X.lk ?_
    refine X.lk ?_
    refine X.call true [] [] (r03_Up_ok end1 align1) (fun x3 => ?_)
    refine X.lk ?_
    refine X.lk ?_
    refine X.lk ?_
    refine X.lk ?_
    refine X.lk ?_
    refine X.nil ?_
    refine ES.seq ?_
    refine VS.seq ?_
    refine VS.seq ?_
    refine VS.region ?_
    refine X.lk ?_
    refine X.lk ?_
    refine X.lk ?_
    refine X.bif (b := (!decide (x3.2 = 0))) (fun h13 => ?_) (fun h13 => ?_)
    · refine X.gN h13 ?_
      refine X.gN h13 ?_
      refine X.pT h13 ?_
      refine X.nil ?_
      refine ES.seq ?_
      refine VS.condT rfl ?_
      refine VS.seq ?_
      refine VS.region ?_
      refine X.build ?_
      refine X.st ?_
      refine X.lk ?_
      refine X.nil ?_
      refine ES.seq ?_
      refine VS.ret ?_
      refine ES.thnR ?_
      refine ES.ret ?_
      exact Ret.clo [.agg ((row_ALayout (⟨0, 0, ([] : List Int)⟩ : ALayout)).map .v), .c (.v (.int .i64 9))] ⟨⟨_, _, _, _, _, _, rfl, rfl, fits rfl, rfl⟩, rfl, trivial⟩ trivial
    · refine X.gY h13 ?_
      refine X.lk ?_
      refine X.gY h13 ?_
      refine X.lk ?_
      refine X.pF h13 ?_
      refine X.nil ?_
      refine ES.seq ?_
      refine VS.cond (fun h14 => ?_) (fun h14 => ?_)
      · refine VS.seq ?_
        refine VS.region ?_
        refine X.build ?_
        refine X.st ?_
        refine X.lk ?_
        refine X.nil ?_
        refine ES.seq ?_
        refine VS.ret ?_
        refine ES.thnR ?_
        refine ES.ret ?_
        exact Ret.clo [.agg ((row_ALayout (⟨0, 0, ([] : List Int)⟩ : ALayout)).map .v), .c (.v (.int .i64 9))] ⟨⟨_, _, _, _, _, _, rfl, rfl, fits rfl, rfl⟩, rfl, trivial⟩ trivial
      · refine VS.skip ?_
        refine ES.seq ?_
        refine VS.seq ?_
        refine VS.region ?_
        refine X.lk ?_
        refine X.lk ?_
        refine X.st ?_
        refine X.nil ?_
        refine ES.seq ?_
        refine VS.seq ?_
        refine VS.region ?_
        refine X.lk ?_
        refine X.st ?_
        refine X.lk ?_
        refine X.nil ?_
        refine ES.seq ?_
        refine VS.ret ?_
        refine ES.ret ?_
        exact Ret.clo [.agg ((row_ALayout (⟨x1, x3.1, Off1⟩ : ALayout)).map .v), .c (.v (.int .i64 0))] ⟨⟨_, _, _, _, _, _, rfl, rfl, fits rfl, rfl⟩, rfl, trivial⟩ trivial
set_option maxHeartbeats 4000000 in
theorem r24_Same_ok (a1 : ALayout) (b1 : ALayout) : ∀ r : Bool, r24_Same a1 b1 r → FCalls Try.prog 29 [] [.agg ((row_ALayout a1).map .v), .agg ((row_ALayout b1).map .v)] (.w (.c (.v (.bool r)))) [] [] := by
  refine fnS 45 ?_
  unfold r24_Same
  refine VS.seq ?_
  refine VS.region ?_
  refine X.box 0 ?_
  refine X.box 1 ?_
  refine X.lk ?_
  refine X.nil ?_
  refine ES.seq ?_
  refine VS.seq ?_
  refine VS.seq ?_
  refine VS.region ?_
  refine X.lk ?_
  refine X.lk ?_
  refine X.lk ?_
  refine X.lk ?_
  refine X.lk ?_
  refine X.lk ?_
  refine X.bif (b := (!decide (a1.Args = b1.Args))) (fun h1 => ?_) (fun h1 => ?_)
  · refine X.gN h1 ?_
    refine X.gN h1 ?_
    refine X.gN h1 ?_
    refine X.gN h1 ?_
    refine X.gN h1 ?_
    refine X.pT h1 ?_
    refine X.lk ?_
    refine X.gN rfl ?_
    refine X.gN rfl ?_
    refine X.gN rfl ?_
    refine X.gN rfl ?_
    refine X.gN rfl ?_
    refine X.gN rfl ?_
    refine X.gN rfl ?_
    refine X.pT rfl ?_
    refine X.nil ?_
    refine ES.seq ?_
    refine VS.condT rfl ?_
    refine VS.seq ?_
    refine VS.region ?_
    refine X.lk ?_
    refine X.nil ?_
    refine ES.seq ?_
    refine VS.ret ?_
    refine ES.thnR ?_
    refine ES.ret ?_
    exact Ret.clo [.c (.v (.bool false))] ⟨rfl, trivial⟩ trivial
  · refine X.gY h1 ?_
    refine X.lk ?_
    refine X.gY h1 ?_
    refine X.lk ?_
    refine X.gY h1 ?_
    refine X.lk ?_
    refine X.gY h1 ?_
    refine X.lk ?_
    refine X.gY h1 ?_
    refine X.lk ?_
    refine X.pF h1 ?_
    refine X.lk ?_
    refine X.bif (b := (!decide (a1.Size = b1.Size))) (fun h2 => ?_) (fun h2 => ?_)
    · refine X.gN h2 ?_
      refine X.gN h2 ?_
      refine X.gN h2 ?_
      refine X.gN h2 ?_
      refine X.gN h2 ?_
      refine X.gN h2 ?_
      refine X.gN h2 ?_
      refine X.pT h2 ?_
      refine X.nil ?_
      refine ES.seq ?_
      refine VS.condT rfl ?_
      refine VS.seq ?_
      refine VS.region ?_
      refine X.lk ?_
      refine X.nil ?_
      refine ES.seq ?_
      refine VS.ret ?_
      refine ES.thnR ?_
      refine ES.ret ?_
      exact Ret.clo [.c (.v (.bool false))] ⟨rfl, trivial⟩ trivial
    · refine X.gY h2 ?_
      refine X.lk ?_
      refine X.gY h2 ?_
      refine X.lk ?_
      refine X.gY h2 ?_
      refine X.lenT ?_
      refine X.gY h2 ?_
      refine X.lk ?_
      refine X.gY h2 ?_
      refine X.lk ?_
      refine X.gY h2 ?_
      refine X.lenT ?_
      refine X.gY h2 ?_
      refine X.lk ?_
      refine X.pF h2 ?_
      refine X.nil ?_
      refine ES.seq ?_
      refine VS.cond (fun h3 => ?_) (fun h3 => ?_)
      · refine VS.seq ?_
        refine VS.region ?_
        refine X.lk ?_
        refine X.nil ?_
        refine ES.seq ?_
        refine VS.ret ?_
        refine ES.thnR ?_
        refine ES.ret ?_
        exact Ret.clo [.c (.v (.bool false))] ⟨rfl, trivial⟩ trivial
      · refine VS.skip ?_
        refine ES.seq ?_
        refine VS.seq ?_
        refine VS.seq ?_
        refine VS.region ?_
        refine X.lk ?_
        refine X.nil ?_
        refine ES.seq ?_
        refine VS.block ?_
        refine VS.loop (fun (i1 : Int) => (⟨[(2, .w (.c (.ptr 0 0 0))), (3, .w (.c (.ptr 1 0 0))), (5, .w (.c (.v (.int .i64 i1))))], [some (.bx 48 ((row_ALayout a1).map .v)), some (.bx 48 ((row_ALayout b1).map .v))]⟩ : St)) (j0 := 0) (St.le_sub ⟨rfl, rfl, rfl, trivial⟩ ⟨rfl, rfl, trivial⟩ rfl) ?_
        rintro n1 again1 ih_again1 i1
        refine VS.seq ?_
        refine VS.seq ?_
        refine VS.region ?_
        refine X.lk ?_
        refine X.lk ?_
        refine X.lk ?_
        refine X.lenT ?_
        refine X.lk ?_
        refine X.nil ?_
        refine ES.seq ?_
        refine VS.cond (fun h4 => ?_) (fun h4 => ?_)
        · refine VS.skip ?_
          refine ES.seq ?_
          refine VS.seq ?_
          refine VS.block ?_
          refine VS.seq ?_
          refine VS.drawn ?_
          refine X.lk ?_
          refine X.lk ?_
          refine X.lk ?_
          refine X.idxT (fun h5 => ?_)
          refine X.lk ?_
          refine X.lk ?_
          refine X.lk ?_
          refine X.lk ?_
          refine X.idxT (fun h6 => ?_)
          refine X.lk ?_
          refine X.lk ?_
          refine X.nilD ?_ (by kernel_rfl)
          refine ES.seq ?_
          refine VS.cond (fun h7 => ?_) (fun h7 => ?_)
          · refine VS.seq ?_
            refine VS.region ?_
            refine X.lk ?_
            refine X.nil ?_
            refine ES.seq ?_
            refine VS.ret ?_
            refine ES.blkR ?_
            refine ES.thnR ?_
            refine ES.thnR ?_
            refine ES.blkR ?_
            refine ES.thnR ?_
            refine ES.ret ?_
            exact Ret.clo [.c (.v (.bool false))] ⟨rfl, trivial⟩ trivial
          · refine VS.skip ?_
            refine ES.blkN ?_
            refine ES.seq ?_
            refine VS.region ?_
            refine X.lk ?_
            refine X.ck fun h8 => ?_
            refine X.lk ?_
            refine X.nil ?_
            exact ES.go ih_again1 (i1 + 1) (St.le_sub ⟨rfl, rfl, rfl, trivial⟩ ⟨rfl, rfl, trivial⟩ rfl)
        · refine VS.exit ?_
          refine ES.thnE ?_
          refine ES.thnE ?_
          refine ES.blkE ?_
          refine ES.seq ?_
          refine VS.seq ?_
          refine VS.region ?_
          refine X.lk ?_
          refine X.nil ?_
          refine ES.seq ?_
          refine VS.ret ?_
          refine ES.ret ?_
          exact Ret.clo [.c (.v (.bool true))] ⟨rfl, trivial⟩ trivial
set_option maxHeartbeats 4000000 in
theorem law24_PackBaseline_ok (codes1 : List Int) : ∀ r : Bool, law24_PackBaseline codes1 r → FCalls Try.prog 4 [] [.c (.v (.tree (codes1.map bRow)))] (.w (.c (.v (.bool r)))) [] [] := by
  refine fnS 51 ?_
  unfold law24_PackBaseline
  refine VS.seq ?_
  refine VS.region ?_
  refine X.lk ?_
  refine X.nil ?_
  refine ES.seq ?_
  refine VS.seq ?_
  refine VS.seq ?_
  refine VS.region ?_
  refine X.call true [] [] law24_awake_ok (fun x1 => ?_)
  refine X.lk ?_
  refine X.nil ?_
  refine ES.seq ?_
  refine VS.cond (fun h1 => ?_) (fun h1 => ?_)
  · refine VS.seq ?_
    refine VS.region ?_
    refine X.lk ?_
    refine X.nil ?_
    refine ES.seq ?_
    refine VS.ret ?_
    refine ES.thnR ?_
    refine ES.ret ?_
    exact Ret.clo [.c (.v (.bool false))] ⟨rfl, trivial⟩ trivial
  · refine VS.skip ?_
    refine ES.seq ?_
    refine VS.seq ?_
    refine VS.region ?_
    refine X.lk ?_
    refine X.callE 0 [] (law24_scene_ok codes1) (fun x2 => ?_)
    refine X.lk ?_
    refine X.lk ?_
    refine X.lk ?_
    refine X.lk ?_
    refine X.lk ?_
    refine X.alloc 1 ?_
    refine X.st ?_
    refine X.lk ?_
    refine X.lk ?_
    refine X.lk ?_
    refine X.nil ?_
    refine ES.seq ?_
    refine VS.seq ?_
    refine VS.region ?_
    refine X.lk ?_
    refine X.lk ?_
    refine X.lk ?_
    refine X.call true [] [] (pack_Baseline_ok x2.1 x2.2.1 x2.2.2.1) (fun x3 => ?_)
    refine X.lk ?_
    refine X.lk ?_
    refine X.lk ?_
    refine X.alloc 2 ?_
    refine X.st ?_
    refine X.lk ?_
    refine X.nil ?_
    refine ES.seq ?_
    refine VS.seq ?_
    refine VS.region ?_
    refine X.lk ?_
    refine X.lk ?_
    refine X.lk ?_
    refine X.call true [] [] (r24_Baseline_ok x2.1 x2.2.1 x2.2.2.1) (fun x4 => ?_)
    refine X.lk ?_
    refine X.lk ?_
    refine X.lk ?_
    refine X.alloc 3 ?_
    refine X.st ?_
    refine X.lk ?_
    refine X.nil ?_
    refine ES.seq ?_
    refine VS.seq ?_
    refine VS.drawn ?_
    refine X.lk ?_
    refine X.lk ?_
    refine X.lk ?_
    refine X.lk ?_
    refine X.bif (b := (decide (x3.2 = x4.2))) (fun h2 => ?_) (fun h2 => ?_)
    · refine X.gY h2 ?_
      refine X.lk ?_
      refine X.gY h2 ?_
      refine X.lk ?_
      refine X.gY h2 ?_
      refine X.call true [] [] (r24_Same_ok x3.1 x4.1) (fun x5 => ?_)
      refine X.pT h2 ?_
      refine X.lk ?_
      refine X.bif (b := x5) (fun h3 => ?_) (fun h3 => ?_)
      · refine X.gY h3 ?_
        refine X.lk ?_
        refine X.gY h3 ?_
        refine X.lk ?_
        refine X.gY h3 ?_
        refine X.call true [] [] (pack_Args_ok x2.1 x2.2.1) (fun x6 => ?_)
        refine X.gY h3 ?_
        refine X.lk ?_
        refine X.gY h3 ?_
        refine X.lk ?_
        refine X.gY h3 ?_
        refine X.call true [] [] (r24_Args_ok x2.1 x2.2.1) (fun x7 => ?_)
        refine X.gY h3 ?_
        refine X.lk ?_
        refine X.pT h3 ?_
        refine X.lk ?_
        refine X.nilD ?_ (by kernel_rfl)
        refine ES.seq ?_
        refine VS.ret ?_
        refine ES.ret ?_
        exact Ret.clo [.c (.v (.bool (decide (x6 = x7))))] ⟨rfl, trivial⟩ trivial
      · refine X.gN h3 ?_
        refine X.gN h3 ?_
        refine X.gN h3 ?_
        refine X.gN h3 ?_
        refine X.gN h3 ?_
        refine X.gN h3 ?_
        refine X.gN h3 ?_
        refine X.pF h3 ?_
        refine X.lk ?_
        refine X.nilD ?_ (by kernel_rfl)
        refine ES.seq ?_
        refine VS.ret ?_
        refine ES.ret ?_
        exact Ret.clo [.c (.v (.bool false))] ⟨rfl, trivial⟩ trivial
    · refine X.gN h2 ?_
      refine X.gN h2 ?_
      refine X.gN h2 ?_
      refine X.pF h2 ?_
      refine X.lk ?_
      refine X.gN rfl ?_
      refine X.gN rfl ?_
      refine X.gN rfl ?_
      refine X.gN rfl ?_
      refine X.gN rfl ?_
      refine X.gN rfl ?_
      refine X.gN rfl ?_
      refine X.pF rfl ?_
      refine X.lk ?_
      refine X.nilD ?_ (by kernel_rfl)
      refine ES.seq ?_
      refine VS.ret ?_
      refine ES.ret ?_
      exact Ret.clo [.c (.v (.bool false))] ⟨rfl, trivial⟩ trivial
set_option maxHeartbeats 4000000 in
theorem pack_Padding_ok (p1 : AProgram) (i1 : Int) (l1 : ALayout) : ∀ r : Int, pack_Padding p1 i1 l1 r → FCalls Try.prog 32 [] [.agg ((row_AProgram p1).map .v), .c (.v (.int .i64 i1)), .agg ((row_ALayout l1).map .v)] (.w (.c (.v (.int .i64 r)))) [] [] := by
  refine fnS 73 ?_
  unfold pack_Padding
  refine VS.seq ?_
  refine VS.region ?_
  refine X.box 0 ?_
  refine X.box 1 ?_
  refine X.lk ?_
  refine X.nil ?_
  refine ES.seq ?_
  refine VS.seq ?_
  refine VS.seq ?_
  refine VS.region ?_
  refine X.lk ?_
  refine X.lk ?_
  refine X.lk ?_
  refine X.lk ?_
  refine X.bif (b := (decide (l1.Size < 0))) (fun h1 => ?_) (fun h1 => ?_)
  · refine X.gN h1 ?_
    refine X.gN h1 ?_
    refine X.gN h1 ?_
    refine X.pT h1 ?_
    refine X.nil ?_
    refine ES.seq ?_
    refine VS.condT rfl ?_
    refine VS.seq ?_
    refine VS.region ?_
    refine X.lk ?_
    refine X.nil ?_
    refine ES.seq ?_
    refine VS.ret ?_
    refine ES.thnR ?_
    refine ES.ret ?_
    exact Ret.clo [.c (.v (.int .i64 0))] ⟨rfl, trivial⟩ trivial
  · refine X.gY h1 ?_
    refine X.lk ?_
    refine X.gY h1 ?_
    refine X.lk ?_
    refine X.gY h1 ?_
    refine X.lk ?_
    refine X.pF h1 ?_
    refine X.nil ?_
    refine ES.seq ?_
    refine VS.cond (fun h2 => ?_) (fun h2 => ?_)
    · refine VS.seq ?_
      refine VS.region ?_
      refine X.lk ?_
      refine X.nil ?_
      refine ES.seq ?_
      refine VS.ret ?_
      refine ES.thnR ?_
      refine ES.ret ?_
      exact Ret.clo [.c (.v (.int .i64 0))] ⟨rfl, trivial⟩ trivial
    · refine VS.skip ?_
      refine ES.seq ?_
      refine VS.seq ?_
      refine VS.region ?_
      refine X.lk ?_
      refine X.lk ?_
      refine X.make 2 (α := Bool) oRow (fun h3 => ?_)
      refine X.lk ?_
      refine X.nil ?_
      refine ES.seq ?_
      refine VS.seq ?_
      refine VS.seq ?_
      refine VS.region ?_
      refine X.lk ?_
      refine X.lk ?_
      refine X.lk ?_
      refine X.idxT (fun h4 => ?_)
      refine X.lk ?_
      refine X.lk ?_
      refine X.lenT ?_
      refine X.lk ?_
      refine X.nil ?_
      refine ES.seq ?_
      refine VS.block ?_
      refine VS.loop (fun jj : Int × List Bool => (⟨[(5, .w (.c (.ptr 0 0 0))), (7, .w (.c (.mref 1))), (29, .w (.c (.v (.tree (((atD p1.Funcs i1).Slots).map row_ASlot))))), (30, .w (.c (.v (.int .i64 (((atD p1.Funcs i1).Slots).length : Int))))), (31, .w (.c (.v (.int .i64 jj.1))))], [some (.bx 48 ((row_ALayout l1).map .v)), some (.sl 4 1 false (jj.2.map oRow))]⟩ : St)) (j0 := (0, (repD l1.Size : List Bool))) ((St.le_drop _ 0 (Nat.le_of_ble_eq_true rfl)).trans ((St.le_mvB _ 1 0 rfl rfl rfl rfl).trans ((St.le_mvB _ 2 1 rfl rfl rfl rfl).trans (St.le_sub ⟨rfl, rfl, rfl, rfl, rfl, trivial⟩ ⟨rfl, rfl, trivial⟩ rfl)))) ?_
      rintro n1 again1 ih_again1 ⟨x1, taken1⟩
      refine VS.seq ?_
      refine VS.region ?_
      refine X.lk ?_
      refine X.nil ?_
      refine ES.seq ?_
      refine VS.seq ?_
      refine VS.cond (fun h5 => ?_) (fun h5 => ?_)
      · refine VS.skip ?_
        refine ES.seq ?_
        refine VS.seq ?_
        refine VS.block ?_
        refine VS.seq ?_
        refine VS.region ?_
        refine X.lk ?_
        refine X.idxT (fun h6 => ?_)
        refine X.lk ?_
        refine X.alloc 2 ?_
        refine X.lk ?_
        refine X.st ?_
        refine X.nil ?_
        refine ES.seq ?_
        refine VS.seq ?_
        refine VS.region ?_
        refine X.lk ?_
        refine X.lk ?_
        refine X.lk ?_
        refine X.idxT (fun h7 => ?_)
        refine X.lk ?_
        refine X.lk ?_
        refine X.nil ?_
        refine ES.seq ?_
        refine VS.block ?_
        refine VS.loop (fun jj : Int × List Bool => (⟨[(5, .w (.c (.ptr 0 0 0))), (7, .w (.c (.mref 1))), (8, .w (.c (.v (.int .i64 x1)))), (9, .w (.c (.ptr 2 0 0))), (10, .w (.c (.v (.int .i64 jj.1)))), (29, .w (.c (.v (.tree (((atD p1.Funcs i1).Slots).map row_ASlot))))), (30, .w (.c (.v (.int .i64 (((atD p1.Funcs i1).Slots).length : Int))))), (31, .w (.c (.v (.int .i64 x1))))], [some (.bx 48 ((row_ALayout l1).map .v)), some (.sl 4 1 false (jj.2.map oRow)), some (.bx 57 ((row_ASlot (atD ((atD p1.Funcs i1).Slots) x1)).map .v))]⟩ : St)) (j0 := ((atD l1.Off x1), taken1)) (St.le_sub ⟨rfl, rfl, rfl, rfl, rfl, rfl, rfl, rfl, trivial⟩ ⟨rfl, rfl, rfl, trivial⟩ rfl) ?_
        rintro n2 again2 ih_again2 ⟨b1, taken2⟩
        refine VS.seq ?_
        refine VS.seq ?_
        refine VS.drawn ?_
        refine X.lk ?_
        refine X.lk ?_
        refine X.lk ?_
        refine X.lk ?_
        refine X.idxT (fun h8 => ?_)
        refine X.lk ?_
        refine X.lk ?_
        refine X.lk ?_
        refine X.ck fun h9 => ?_
        refine X.lk ?_
        refine X.nilD ?_ (by kernel_rfl)
        refine ES.seq ?_
        refine VS.cond (fun h10 => ?_) (fun h10 => ?_)
        · refine VS.skip ?_
          refine ES.seq ?_
          refine VS.seq ?_
          refine VS.block ?_
          refine VS.region ?_
          refine X.lk ?_
          refine X.lk ?_
          refine X.idxM (l := taken2) (i := b1) (fun h11 => ?_)
          refine X.set (i := b1) true h11 ?_
          refine X.nil ?_
          refine ES.blkN ?_
          refine ES.seq ?_
          refine VS.region ?_
          refine X.lk ?_
          refine X.ck fun h12 => ?_
          refine X.lk ?_
          refine X.nil ?_
          exact ES.go ih_again2 ((b1 + 1), (setD taken2 b1 true)) (St.le_sub ⟨rfl, rfl, rfl, rfl, rfl, rfl, rfl, rfl, trivial⟩ ⟨rfl, rfl, rfl, trivial⟩ rfl)
        · refine VS.exit ?_
          refine ES.thnE ?_
          refine ES.thnE ?_
          refine ES.blkE ?_
          refine ES.blkN ?_
          refine ES.seq ?_
          refine VS.region ?_
          refine X.ck fun h13 => ?_
          refine X.lk ?_
          refine X.nil ?_
          exact ES.go ih_again1 ((x1 + 1), taken2) (St.le_sub ⟨rfl, rfl, rfl, rfl, rfl, trivial⟩ ⟨rfl, rfl, trivial⟩ rfl)
      · refine VS.exit ?_
        refine ES.thnE ?_
        refine ES.thnE ?_
        refine ES.blkE ?_
        refine ES.seq ?_
        refine VS.seq ?_
        refine VS.region ?_
        refine X.lk ?_
        refine X.nil ?_
        refine ES.seq ?_
        refine VS.seq ?_
        refine VS.seq ?_
        refine VS.region ?_
        refine X.lk ?_
        refine X.lk ?_
        refine X.lk ?_
        refine X.nil ?_
        refine ES.seq ?_
        refine VS.block ?_
        refine VS.loop (fun jj : Int × Int => (⟨[(5, .w (.c (.ptr 0 0 0))), (7, .w (.c (.mref 1))), (11, .w (.c (.v (.int .i64 jj.1)))), (12, .w (.c (.v (.int .i64 jj.2))))], [some (.bx 48 ((row_ALayout l1).map .v)), some (.sl 4 1 false (taken1.map oRow))]⟩ : St)) (j0 := (0, l1.Args)) (St.le_sub ⟨rfl, rfl, rfl, rfl, trivial⟩ ⟨rfl, rfl, trivial⟩ rfl) ?_
        rintro n4 again3 ih_again3 ⟨n3, b2⟩
        refine VS.seq ?_
        refine VS.seq ?_
        refine VS.region ?_
        refine X.lk ?_
        refine X.lk ?_
        refine X.lk ?_
        refine X.lk ?_
        refine X.nil ?_
        refine ES.seq ?_
        refine VS.cond (fun h14 => ?_) (fun h14 => ?_)
        · refine VS.skip ?_
          refine ES.seq ?_
          refine VS.seq ?_
          refine VS.block ?_
          refine VS.seq ?_
          refine VS.region ?_
          refine X.lk ?_
          refine X.lk ?_
          refine X.idxM (l := taken1) (i := b2) (fun h15 => ?_)
          refine X.ld (i := b2) h15 ?_
          refine X.lk ?_
          refine X.nil ?_
          refine ES.seq ?_
          refine VS.cond (fun h16 => ?_) (fun h16 => ?_)
          · refine VS.region ?_
            refine X.lk ?_
            refine X.ck fun h17 => ?_
            refine X.lk ?_
            refine X.nil ?_
            refine ES.blkN ?_
            refine ES.seq ?_
            refine VS.region ?_
            refine X.lk ?_
            refine X.ck fun h18 => ?_
            refine X.lk ?_
            refine X.nil ?_
            exact ES.go ih_again3 ((n3 + 1), (b2 + 1)) (St.le_sub ⟨rfl, rfl, rfl, rfl, trivial⟩ ⟨rfl, rfl, trivial⟩ rfl)
          · refine VS.skip ?_
            refine ES.blkN ?_
            refine ES.seq ?_
            refine VS.region ?_
            refine X.lk ?_
            refine X.ck fun h19 => ?_
            refine X.lk ?_
            refine X.nil ?_
            exact ES.go ih_again3 (n3, (b2 + 1)) (St.le_sub ⟨rfl, rfl, rfl, rfl, trivial⟩ ⟨rfl, rfl, trivial⟩ rfl)
        · refine VS.exit ?_
          refine ES.thnE ?_
          refine ES.thnE ?_
          refine ES.blkE ?_
          refine ES.seq ?_
          refine VS.seq ?_
          refine VS.region ?_
          refine X.lk ?_
          refine X.lk ?_
          refine X.nil ?_
          refine ES.seq ?_
          refine VS.ret ?_
          refine ES.ret ?_
          exact Ret.clo [.c (.v (.int .i64 n3))] ⟨rfl, trivial⟩ trivial
set_option maxHeartbeats 4000000 in
theorem law24_PackCountsPadding_ok (codes1 : List Int) : ∀ r : Bool, law24_PackCountsPadding codes1 r → FCalls Try.prog 5 [] [.c (.v (.tree (codes1.map bRow)))] (.w (.c (.v (.bool r)))) [] [] := by
  refine fnS 62 ?_
  unfold law24_PackCountsPadding
  refine VS.seq ?_
  refine VS.region ?_
  refine X.lk ?_
  refine X.nil ?_
  refine ES.seq ?_
  refine VS.seq ?_
  refine VS.seq ?_
  refine VS.region ?_
  refine X.call true [] [] law24_awake_ok (fun x1 => ?_)
  refine X.lk ?_
  refine X.nil ?_
  refine ES.seq ?_
  refine VS.cond (fun h1 => ?_) (fun h1 => ?_)
  · refine VS.seq ?_
    refine VS.region ?_
    refine X.lk ?_
    refine X.nil ?_
    refine ES.seq ?_
    refine VS.ret ?_
    refine ES.thnR ?_
    refine ES.ret ?_
    exact Ret.clo [.c (.v (.bool false))] ⟨rfl, trivial⟩ trivial
  · refine VS.skip ?_
    refine ES.seq ?_
    refine VS.seq ?_
    refine VS.region ?_
    refine X.lk ?_
    refine X.callE 0 [] (law24_scene_ok codes1) (fun x2 => ?_)
    refine X.lk ?_
    refine X.lk ?_
    refine X.lk ?_
    refine X.lk ?_
    refine X.lk ?_
    refine X.alloc 1 ?_
    refine X.st ?_
    refine X.lk ?_
    refine X.lk ?_
    refine X.lk ?_
    refine X.nil ?_
    refine ES.seq ?_
    refine VS.seq ?_
    refine VS.region ?_
    refine X.lk ?_
    refine X.lk ?_
    refine X.lk ?_
    refine X.call true [] [] (pack_Baseline_ok x2.1 x2.2.1 x2.2.2.1) (fun x3 => ?_)
    refine X.lk ?_
    refine X.lk ?_
    refine X.lk ?_
    refine X.alloc 2 ?_
    refine X.st ?_
    refine X.lk ?_
    refine X.nil ?_
    refine ES.seq ?_
    refine VS.seq ?_
    refine VS.drawn ?_
    refine X.lk ?_
    refine X.lk ?_
    refine X.lk ?_
    refine X.lk ?_
    refine X.lk ?_
    refine X.call true [] [] (pack_Padding_ok x2.1 x2.2.1 x3.1) (fun x4 => ?_)
    refine X.ck fun h2 => ?_
    refine X.lk ?_
    refine X.nilD ?_ (by kernel_rfl)
    refine ES.seq ?_
    refine VS.seq ?_
    refine VS.region ?_
    refine X.lk ?_
    refine X.lk ?_
    refine X.lk ?_
    refine X.idxT (fun h3 => ?_)
    refine X.lk ?_
    refine X.lk ?_
    refine X.lk ?_
    refine X.nil ?_
    refine ES.seq ?_
    refine VS.seq ?_
    refine VS.seq ?_
    refine VS.region ?_
    refine X.lk ?_
    refine X.nil ?_
    refine ES.seq ?_
    refine VS.block ?_
    refine VS.loop (fun jj : Int × Int => (⟨[(7, .w (.c (.ptr 0 0 0))), (8, .w (.c (.v (.int .i64 x3.2)))), (9, .w (.c (.v (.int .i64 jj.1)))), (10, .w (.c (.v (.tree (((atD x2.1.Funcs x2.2.1).Slots).map row_ASlot))))), (11, .w (.c (.v (.int .i64 jj.2))))], [some (.bx 48 ((row_ALayout x3.1).map .v))]⟩ : St)) (j0 := ((x3.1.Args + x4), 0)) ((St.le_drop _ 0 (Nat.le_of_ble_eq_true rfl)).trans ((St.le_mvB _ 2 0 rfl rfl rfl rfl).trans (St.le_sub ⟨rfl, rfl, rfl, rfl, rfl, trivial⟩ ⟨rfl, trivial⟩ rfl))) ?_
    rintro n1 again1 ih_again1 ⟨sum1, k1⟩
    refine VS.seq ?_
    refine VS.seq ?_
    refine VS.region ?_
    refine X.lk ?_
    refine X.lk ?_
    refine X.lenT ?_
    refine X.lk ?_
    refine X.nil ?_
    refine ES.seq ?_
    refine VS.cond (fun h4 => ?_) (fun h4 => ?_)
    · refine VS.skip ?_
      refine ES.seq ?_
      refine VS.seq ?_
      refine VS.block ?_
      refine VS.region ?_
      refine X.lk ?_
      refine X.lk ?_
      refine X.lk ?_
      refine X.idxT (fun h5 => ?_)
      refine X.lk ?_
      refine X.lk ?_
      refine X.ck fun h6 => ?_
      refine X.lk ?_
      refine X.nil ?_
      refine ES.blkN ?_
      refine ES.seq ?_
      refine VS.region ?_
      refine X.lk ?_
      refine X.ck fun h7 => ?_
      refine X.lk ?_
      refine X.nil ?_
      exact ES.go ih_again1 ((sum1 + ((atD ((atD x2.1.Funcs x2.2.1).Slots) k1).Size)), (k1 + 1)) (St.le_sub ⟨rfl, rfl, rfl, rfl, rfl, trivial⟩ ⟨rfl, trivial⟩ rfl)
    · refine VS.exit ?_
      refine ES.thnE ?_
      refine ES.thnE ?_
      refine ES.blkE ?_
      refine ES.seq ?_
      refine VS.seq ?_
      refine VS.region ?_
      refine X.lk ?_
      refine X.lk ?_
      refine X.lk ?_
      refine X.bif (b := (decide (x3.2 = 0))) (fun h8 => ?_) (fun h8 => ?_)
      · refine X.gY h8 ?_
        refine X.lk ?_
        refine X.gY h8 ?_
        refine X.lk ?_
        refine X.gY h8 ?_
        refine X.lk ?_
        refine X.gY h8 ?_
        refine X.lk ?_
        refine X.pT h8 ?_
        refine X.lk ?_
        refine X.nil ?_
        refine ES.seq ?_
        refine VS.ret ?_
        refine ES.ret ?_
        exact Ret.clo [.c (.v (.bool (decide (sum1 = x3.1.Size))))] ⟨rfl, trivial⟩ trivial
      · refine X.gN h8 ?_
        refine X.gN h8 ?_
        refine X.gN h8 ?_
        refine X.gN h8 ?_
        refine X.pF h8 ?_
        refine X.lk ?_
        refine X.nil ?_
        refine ES.seq ?_
        refine VS.ret ?_
        refine ES.ret ?_
        exact Ret.clo [.c (.v (.bool false))] ⟨rfl, trivial⟩ trivial
set_option maxHeartbeats 4000000 in
theorem extent_right_ok (a1 : AInterval) : ∀ r : Bool, extent_right a1 r → FCalls Try.prog 76 [] [.agg ((row_AInterval a1).map .v)] (.w (.c (.v (.bool r)))) [] [] := by
  refine fnS 19 ?_
  unfold extent_right
  refine VS.seq ?_
  refine VS.region ?_
  refine X.box 0 ?_
  refine X.lk ?_
  refine X.nil ?_
  refine ES.seq ?_
  refine VS.seq ?_
  refine VS.region ?_
  refine X.lk ?_
  refine X.lk ?_
  refine X.call true [] [] (extent_bound_ok a1.Off) (fun x1 => ?_)
  refine X.lk ?_
  refine X.bif (b := x1) (fun h1 => ?_) (fun h1 => ?_)
  · refine X.gY h1 ?_
    refine X.lk ?_
    refine X.gY h1 ?_
    refine X.lk ?_
    refine X.gY h1 ?_
    refine X.call true [] [] (extent_bound_ok a1.Size) (fun x2 => ?_)
    refine X.pT h1 ?_
    refine X.lk ?_
    refine X.bif (b := x2) (fun h2 => ?_) (fun h2 => ?_)
    · refine X.gY h2 ?_
      refine X.lk ?_
      refine X.gY h2 ?_
      refine X.lk ?_
      refine X.gY h2 ?_
      refine X.lk ?_
      refine X.gY h2 ?_
      refine X.lk ?_
      refine X.gY h2 ?_
      refine X.ck fun h3 => ?_
      refine X.gY h2 ?_
      refine X.lk ?_
      refine X.pT h2 ?_
      refine X.lk ?_
      refine X.nil ?_
      refine ES.seq ?_
      refine VS.ret ?_
      refine ES.ret ?_
      exact Ret.clo [.c (.v (.bool (decide ((a1.Off + a1.Size) ≤ 2147483647))))] ⟨rfl, trivial⟩ trivial
    · refine X.gN h2 ?_
      refine X.gN h2 ?_
      refine X.gN h2 ?_
      refine X.gN h2 ?_
      refine X.gN h2 ?_
      refine X.gN h2 ?_
      refine X.pF h2 ?_
      refine X.lk ?_
      refine X.nil ?_
      refine ES.seq ?_
      refine VS.ret ?_
      refine ES.ret ?_
      exact Ret.clo [.c (.v (.bool false))] ⟨rfl, trivial⟩ trivial
  · refine X.gN h1 ?_
    refine X.gN h1 ?_
    refine X.gN h1 ?_
    refine X.pF h1 ?_
    refine X.lk ?_
    refine X.gN rfl ?_
    refine X.gN rfl ?_
    refine X.gN rfl ?_
    refine X.gN rfl ?_
    refine X.gN rfl ?_
    refine X.gN rfl ?_
    refine X.pF rfl ?_
    refine X.lk ?_
    refine X.nil ?_
    refine ES.seq ?_
    refine VS.ret ?_
    refine ES.ret ?_
    exact Ret.clo [.c (.v (.bool false))] ⟨rfl, trivial⟩ trivial
set_option maxHeartbeats 4000000 in
theorem extent_Inside_ok (a1 : AInterval) (size1 : Int) : ∀ r : Bool, extent_Inside a1 size1 r → FCalls Try.prog 61 [] [.agg ((row_AInterval a1).map .v), .c (.v (.int .i64 size1))] (.w (.c (.v (.bool r)))) [] [] := by
  refine fnS 16 ?_
  unfold extent_Inside
  refine VS.seq ?_
  refine VS.region ?_
  refine X.box 0 ?_
  refine X.lk ?_
  refine X.nil ?_
  refine ES.seq ?_
  refine VS.seq ?_
  refine VS.region ?_
  refine X.lk ?_
  refine X.call true [] [] (extent_right_ok a1) (fun x1 => ?_)
  refine X.lk ?_
  refine X.bif (b := x1) (fun h1 => ?_) (fun h1 => ?_)
  · refine X.gY h1 ?_
    refine X.lk ?_
    refine X.gY h1 ?_
    refine X.lk ?_
    refine X.gY h1 ?_
    refine X.lk ?_
    refine X.gY h1 ?_
    refine X.lk ?_
    refine X.gY h1 ?_
    refine X.ck fun h2 => ?_
    refine X.gY h1 ?_
    refine X.lk ?_
    refine X.gY h1 ?_
    refine X.lk ?_
    refine X.pT h1 ?_
    refine X.lk ?_
    refine X.nil ?_
    refine ES.seq ?_
    refine VS.ret ?_
    refine ES.ret ?_
    exact Ret.clo [.c (.v (.bool (decide ((a1.Off + a1.Size) ≤ size1))))] ⟨rfl, trivial⟩ trivial
  · refine X.gN h1 ?_
    refine X.gN h1 ?_
    refine X.gN h1 ?_
    refine X.gN h1 ?_
    refine X.gN h1 ?_
    refine X.gN h1 ?_
    refine X.gN h1 ?_
    refine X.pF h1 ?_
    refine X.lk ?_
    refine X.nil ?_
    refine ES.seq ?_
    refine VS.ret ?_
    refine ES.ret ?_
    exact Ret.clo [.c (.v (.bool false))] ⟨rfl, trivial⟩ trivial
set_option maxHeartbeats 4000000 in
theorem slices_Clone___int_int__ok (s1 : List Int) : ∀ r : List Int, slices_Clone___int_int_ s1 r → FCalls Try.prog 62 [] [.c (.v (.tree (s1.map iRow)))] (.w (.c (.v (.tree (r.map iRow))))) [] [] := by
  refine fnS 8 ?_
  unfold slices_Clone___int_int_
  refine VS.seq ?_
  refine VS.region ?_
  refine X.lk ?_
  refine X.nil ?_
  refine ES.seq ?_
  refine VS.seq ?_
  refine VS.seq ?_
  refine VS.nilTest (l := s1) ?_ ?_
  · refine ES.seq ?_
    refine VS.condT rfl ?_
    refine VS.seq ?_
    refine VS.region ?_
    refine X.lk ?_
    refine X.nil ?_
    refine ES.seq ?_
    refine VS.ret ?_
    refine ES.thnR ?_
    refine ES.ret ?_
    exact Ret.weak (St.le_nil _ 2 rfl) (Ret.clo [.c (.v (.tree (([] : List Int).map iRow)))] ⟨rfl, trivial⟩ trivial)
  · refine ES.seq ?_
    refine VS.condF rfl ?_
    refine VS.skip ?_
    refine ES.seq ?_
    refine VS.seq ?_
    refine VS.region ?_
    refine X.bs 0 ([] : List Int) iRow ?_
    refine X.lk ?_
    refine X.appMT 1 (l := ([] : List Int)) (l' := s1) (fun h1 => ?_)
    refine X.lk ?_
    refine X.nil ?_
    refine ES.seq ?_
    refine VS.ret ?_
    refine ES.ret ?_
    exact Ret.weak (St.le_tree _ 2 1 rfl rfl) (Ret.clo [.c (.v (.tree ((([] : List Int) ++ s1).map iRow)))] ⟨rfl, trivial⟩ trivial)
set_option maxHeartbeats 4000000 in
theorem colour_End_ok (s1 : List ASlot) (off1 : List Int) : ∀ r : Int, colour_End s1 off1 r → FCalls Try.prog 63 [] [.c (.v (.tree (s1.map row_ASlot))), .c (.v (.tree (off1.map iRow)))] (.w (.c (.v (.int .i64 r)))) [] [] := by
  refine fnS 26 ?_
  unfold colour_End
  refine VS.seq ?_
  refine VS.region ?_
  refine X.lk ?_
  refine X.nil ?_
  refine ES.seq ?_
  refine VS.seq ?_
  refine VS.region ?_
  refine X.lk ?_
  refine X.nil ?_
  refine ES.seq ?_
  refine VS.seq ?_
  refine VS.seq ?_
  refine VS.region ?_
  refine X.lk ?_
  refine X.lenT ?_
  refine X.lk ?_
  refine X.nil ?_
  refine ES.seq ?_
  refine VS.block ?_
  refine VS.loop (fun jj : Int × Int => (⟨[(0, .w (.c (.v (.tree (s1.map row_ASlot))))), (1, .w (.c (.v (.tree (off1.map iRow))))), (5, .w (.c (.v (.int .i64 jj.1)))), (8, .w (.c (.v (.int .i64 (s1.length : Int))))), (9, .w (.c (.v (.int .i64 jj.2))))], []⟩ : St)) (j0 := (0, 0)) (St.le_sub ⟨rfl, rfl, rfl, rfl, rfl, trivial⟩ trivial rfl) ?_
  rintro n1 again1 ih_again1 ⟨end1, x1⟩
  refine VS.seq ?_
  refine VS.region ?_
  refine X.lk ?_
  refine X.nil ?_
  refine ES.seq ?_
  refine VS.seq ?_
  refine VS.cond (fun h1 => ?_) (fun h1 => ?_)
  · refine VS.skip ?_
    refine ES.seq ?_
    refine VS.seq ?_
    refine VS.block ?_
    refine VS.seq ?_
    refine VS.region ?_
    refine X.lk ?_
    refine X.lk ?_
    refine X.nil ?_
    refine ES.seq ?_
    refine VS.drawn ?_
    refine X.lk ?_
    refine X.lk ?_
    refine X.lk ?_
    refine X.idxT (fun h2 => ?_)
    refine X.lk ?_
    refine X.lk ?_
    refine X.lk ?_
    refine X.idxT (fun h3 => ?_)
    refine X.lk ?_
    refine X.lk ?_
    refine X.ck fun h4 => ?_
    refine X.max ?_
    refine X.lk ?_
    refine X.nilD ?_ (by kernel_rfl)
    refine ES.blkN ?_
    refine ES.seq ?_
    refine VS.region ?_
    refine X.ck fun h5 => ?_
    refine X.lk ?_
    refine X.nil ?_
    exact ES.go ih_again1 ((max end1 ((atD off1 x1) + ((atD s1 x1).Size))), (x1 + 1)) (St.le_sub ⟨rfl, rfl, rfl, rfl, rfl, trivial⟩ trivial rfl)
  · refine VS.exit ?_
    refine ES.thnE ?_
    refine ES.thnE ?_
    refine ES.blkE ?_
    refine ES.seq ?_
    refine VS.seq ?_
    refine VS.region ?_
    refine X.lk ?_
    refine X.lk ?_
    refine X.nil ?_
    refine ES.seq ?_
    refine VS.ret ?_
    refine ES.ret ?_
    exact Ret.clo [.c (.v (.int .i64 end1))] ⟨rfl, trivial⟩ trivial
end Go.Proofs.Ytbppgdffochdmaa.Q
