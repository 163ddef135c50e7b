/- Walks of functions: the code does what the lifted text says (written by a program). -/
import Derived.Test.YtjfkdjlmajfljaaGw4
set_option linter.unusedVariables false
set_option linter.unusedSimpArgs false
set_option maxRecDepth 8000
namespace Go.Proofs.Ytjfkdjlmajfljaa.Q
open Go.RowKit
set_option maxHeartbeats 4000000 in
theorem law20_scene_ok (codes1 : List Int) : ∀ r : AFunc × ALive × List Int × DCodes, law20_scene codes1 r → FCalls Try.prog 12 [] [.c (.v (.tree (codes1.map bRow)))] (.tup [.agg ((row_AFunc r.1).map .v), .agg ((row_ALive r.2.1).map .v), .c (.v (.tree (r.2.2.1.map iRow))), .c (.ptr 0 0 0)]) [.bx 69 ((row_DCodes r.2.2.2).map .v)] [] := by
  refine fnS 47 ?_
  unfold law20_scene
  refine VS.seq ?_
  refine VS.region ?_
  refine X.alloc 0 ?_
  refine X.alloc 1 ?_
  refine X.lk ?_
  refine X.lk ?_
  refine X.nil ?_
  refine ES.seq ?_
  refine VS.seq ?_
  refine VS.region ?_
  refine X.lk ?_
  refine X.callE 2 [] (draw_New_ok codes1 250) (fun x1 => ?_)
  refine X.lk ?_
  refine X.nil ?_
  refine ES.seq ?_
  refine VS.seq ?_
  refine VS.region ?_
  refine X.lk ?_
  refine X.call true [] [2] (draw_Program_ok x1 3 16) (fun x2 => ?_) (hn := ⟨rfl, trivial⟩)
  refine X.alloc 3 ?_
  refine X.st ?_
  refine X.nil ?_
  refine ES.seq ?_
  refine VS.seq ?_
  refine VS.drawn ?_
  refine X.lk ?_
  refine X.lk ?_
  refine X.lk ?_
  refine X.lk ?_
  refine X.lk ?_
  refine X.lenT ?_
  refine X.call true [] [2] (draw_Next_ok x2.2 (x2.1.Funcs.length : Int)) (fun x3 => ?_) (hn := ⟨rfl, trivial⟩)
  refine X.idxT (fun h1 => ?_)
  refine X.lk ?_
  refine X.alloc 4 ?_
  refine X.st ?_
  refine X.nilD ?_ (by kernel_rfl)
  refine ES.seq ?_
  refine VS.seq ?_
  refine VS.region ?_
  refine X.lk ?_
  refine X.lk ?_
  refine X.call true [] [2] (draw_Lives_ok x3.2 (atD x2.1.Funcs x3.1)) (fun x4 => ?_) (hn := ⟨rfl, trivial⟩)
  refine X.alloc 5 ?_
  refine X.st ?_
  refine X.nil ?_
  refine ES.seq ?_
  refine VS.seq ?_
  refine VS.region ?_
  refine X.lk ?_
  refine X.lk ?_
  refine X.call true [] [] (r18_Graph_ok (atD x2.1.Funcs x3.1) x4.1) (fun x5 => ?_)
  refine X.lk ?_
  refine X.lk ?_
  refine X.lk ?_
  refine X.lk ?_
  refine X.lk ?_
  refine X.nil ?_
  refine ES.seq ?_
  refine VS.join (fun jj : List (List Int) × DCodes => (⟨[(2, .w (.c (.ptr 0 0 0))), (3, .w (.c (.ptr 1 0 0))), (6, .w (.c (.ptr 2 0 0))), (8, .w (.c (.ptr 3 0 0))), (9, .w (.c (.ptr 4 0 0))), (10, .w (.c (.v (.tree (jj.1.map (sR iRow))))))], [some (.bx 34 [.v (.int .i64 0), .v (.tree (([] : List ASlot).map row_ASlot)), .v (.tree (([] : List AInstr).map row_AInstr))]), some (.bx 41 [.v (.tree (([] : List (List Int)).map (sR iRow)))]), some (.bx 69 ((row_DCodes jj.2).map .v)), some (.bx 34 ((row_AFunc (atD x2.1.Funcs x3.1)).map .v)), some (.bx 41 ((row_ALive x4.1).map .v))]⟩ : St)) ?_ ?_
  · rintro ⟨g1, c1⟩
    refine VS.seq ?_
    refine VS.drawn ?_
    refine X.lk ?_
    refine X.lk ?_
    refine X.lk ?_
    refine X.lk ?_
    refine X.call true [] [] (r19_Classes_ok (atD x2.1.Funcs x3.1) g1) (fun x6 => ?_)
    refine X.lk ?_
    refine X.st ?_
    refine X.st ?_
    refine X.lk ?_
    refine X.lk ?_
    refine X.nilD ?_ (by kernel_rfl)
    refine ES.seq ?_
    refine VS.ret ?_
    refine ES.ret ?_
    exact Ret.cloE 2 [.agg ((row_AFunc (atD x2.1.Funcs x3.1)).map .v), .agg ((row_ALive x4.1).map .v), .c (.v (.tree (x6.map iRow))), .c (.ptr 2 0 0)] ⟨⟨_, _, _, _, _, _, rfl, rfl, fits rfl, rfl⟩, ⟨_, _, _, _, _, _, rfl, rfl, fits rfl, rfl⟩, rfl, rfl, trivial⟩ trivial
  · intro k1 ih_k1
    refine VS.seq ?_
    refine VS.region ?_
    refine X.lk ?_
    refine X.call true [] [2] (draw_Next_ok x4.2 4) (fun x7 => ?_) (hn := ⟨rfl, trivial⟩)
    refine X.lk ?_
    refine X.nil ?_
    refine ES.seq ?_
    refine VS.cond (fun h2 => ?_) (fun h2 => ?_)
    · refine VS.region ?_
      refine X.lk ?_
      refine X.lk ?_
      refine X.lenT ?_
      refine X.make 6 (α := List Int) (sR iRow) (fun h3 => ?_)
      refine X.lk ?_
      refine X.nil ?_
      exact ES.jn ih_k1 ((repD (((atD x2.1.Funcs x3.1).Slots).length : Int) : List (List Int)), x7.2) ((St.le_tree _ 10 6 rfl rfl).trans ((St.le_drop _ 3 (Nat.le_of_ble_eq_true rfl)).trans ((St.le_mvB _ 4 3 rfl rfl rfl rfl).trans ((St.le_mvB _ 5 4 rfl rfl rfl rfl).trans (St.le_sub ⟨rfl, rfl, rfl, rfl, rfl, rfl, trivial⟩ ⟨rfl, rfl, rfl, rfl, rfl, trivial⟩ rfl)))))
    · refine VS.skip ?_
      exact ES.jn ih_k1 (x5.1, x7.2) ((St.le_drop _ 3 (Nat.le_of_ble_eq_true rfl)).trans ((St.le_mvB _ 4 3 rfl rfl rfl rfl).trans ((St.le_mvB _ 5 4 rfl rfl rfl rfl).trans (St.le_sub ⟨rfl, rfl, rfl, rfl, rfl, rfl, trivial⟩ ⟨rfl, rfl, rfl, rfl, rfl, trivial⟩ rfl))))
set_option maxHeartbeats 4000000 in
theorem effect_Defines_ok (x1 : AInstr) : ∀ r : Int × Bool, effect_Defines x1 r → FCalls Try.prog 35 [] [.agg ((row_AInstr x1).map .v)] (.tup [.c (.v (.int .i64 r.1)), .c (.v (.bool r.2))]) [] [] := by
  refine fnS 11 ?_
  unfold effect_Defines
  refine VS.seq ?_
  refine VS.region ?_
  refine X.box 0 ?_
  refine X.lk ?_
  refine X.lk ?_
  refine X.nil ?_
  refine ES.seq ?_
  refine VS.seq ?_
  refine VS.seq ?_
  refine VS.region ?_
  refine X.lk ?_
  refine X.lk ?_
  refine X.nil ?_
  refine ES.seq ?_
  refine VS.block ?_
  refine VS.join (fun (x2 : Bool) => (⟨[(1, .w (.c (.ptr 0 0 0))), (6, .w (.c (.v (.bool x2))))], [some (.bx 37 ((row_AInstr x1).map .v))]⟩ : St)) ?_ ?_
  · rintro x2
    refine VS.cond (fun h1 => ?_) (fun h1 => ?_)
    · refine VS.seq ?_
      refine VS.region ?_
      refine X.lk ?_
      refine X.lk ?_
      refine X.lk ?_
      refine X.lk ?_
      refine X.nil ?_
      refine ES.seq ?_
      refine VS.ret ?_
      refine ES.blkR ?_
      refine ES.thnR ?_
      refine ES.ret ?_
      exact Ret.clo [.c (.v (.int .i64 x1.A)), .c (.v (.bool true))] ⟨rfl, rfl, trivial⟩ trivial
    · refine VS.skip ?_
      refine ES.blkN ?_
      refine ES.seq ?_
      refine VS.seq ?_
      refine VS.region ?_
      refine X.lk ?_
      refine X.lk ?_
      refine X.nil ?_
      refine ES.seq ?_
      refine VS.ret ?_
      refine ES.ret ?_
      exact Ret.clo [.c (.v (.int .i64 0)), .c (.v (.bool false))] ⟨rfl, rfl, trivial⟩ trivial
  · intro k1 ih_k1
    refine VS.seq ?_
    refine VS.region ?_
    refine X.lk ?_
    refine X.lk ?_
    refine X.nil ?_
    refine ES.seq ?_
    refine VS.cond (fun h2 => ?_) (fun h2 => ?_)
    · refine VS.skip ?_
      exact ES.jn ih_k1 (decide (x1.Op = 16)) (St.le_sub ⟨rfl, rfl, trivial⟩ ⟨rfl, trivial⟩ rfl)
    · refine VS.region ?_
      refine X.lk ?_
      refine X.lk ?_
      refine X.nil ?_
      exact ES.jn ih_k1 (decide (x1.Op = 17)) (St.le_sub ⟨rfl, rfl, trivial⟩ ⟨rfl, trivial⟩ rfl)
set_option maxHeartbeats 4000000 in
theorem deadstore_Dead_ok (f1 : AFunc) (l1 : ALive) : ∀ r : List Int, deadstore_Dead f1 l1 r → FCalls Try.prog 15 [] [.agg ((row_AFunc f1).map .v), .agg ((row_ALive l1).map .v)] (.w (.c (.v (.tree (r.map iRow))))) [] [] := by
  refine fnS 40 ?_
  unfold deadstore_Dead
  refine VS.seq ?_
  refine VS.region ?_
  refine X.box 0 ?_
  refine X.box 1 ?_
  refine X.lk ?_
  refine X.nil ?_
  refine ES.seq ?_
  refine VS.seq ?_
  refine VS.region ?_
  refine X.lk ?_
  refine X.nil ?_
  refine ES.seq ?_
  refine VS.seq ?_
  refine VS.seq ?_
  refine VS.region ?_
  refine X.lk ?_
  refine X.lk ?_
  refine X.lenT ?_
  refine X.lk ?_
  refine X.nil ?_
  refine ES.seq ?_
  refine VS.block ?_
  refine VS.loop (fun jj : Int × List Int => (⟨[(3, .w (.c (.ptr 0 0 0))), (5, .w (.c (.mref 1))), (11, .w (.c (.v (.tree (f1.Code.map row_AInstr))))), (12, .w (.c (.v (.int .i64 (f1.Code.length : Int))))), (13, .w (.c (.v (.int .i64 jj.1))))], [some (.bx 41 ((row_ALive l1).map .v)), some (.sl 3 1 false (jj.2.map iRow))]⟩ : St)) (j0 := (0, ([] : List Int))) ((St.le_keep _ [3, 5, 11, 12, 13]).trans ((St.le_drop _ 0 (Nat.le_of_ble_eq_true rfl)).trans ((St.le_mvB _ 1 0 rfl rfl rfl rfl).trans ((St.le_adopt _ 5 1 3 1 rfl rfl).trans (St.le_sub ⟨rfl, rfl, rfl, rfl, rfl, trivial⟩ ⟨rfl, rfl, trivial⟩ rfl))))) ?_
  rintro n1 again1 ih_again1 ⟨x1, dead1⟩
  refine VS.seq ?_
  refine VS.region ?_
  refine X.lk ?_
  refine X.nil ?_
  refine ES.seq ?_
  refine VS.seq ?_
  refine VS.cond (fun h1 => ?_) (fun h1 => ?_)
  · refine VS.skip ?_
    refine ES.seq ?_
    refine VS.seq ?_
    refine VS.block ?_
    refine VS.seq ?_
    refine VS.region ?_
    refine X.lk ?_
    refine X.idxT (fun h2 => ?_)
    refine X.lk ?_
    refine X.alloc 2 ?_
    refine X.lk ?_
    refine X.st ?_
    refine X.nil ?_
    refine ES.seq ?_
    refine VS.seq ?_
    refine VS.region ?_
    refine X.lk ?_
    refine X.call true [] [] (effect_Defines_ok (atD f1.Code x1)) (fun x2 => ?_)
    refine X.lk ?_
    refine X.lk ?_
    refine X.lk ?_
    refine X.lk ?_
    refine X.lk ?_
    refine X.nil ?_
    refine ES.seq ?_
    refine VS.seq ?_
    refine VS.region ?_
    refine X.lk ?_
    refine X.lk ?_
    refine X.bif (b := x2.2) (fun h3 => ?_) (fun h3 => ?_)
    · refine X.gY h3 ?_
      refine X.lk ?_
      refine X.gY h3 ?_
      refine X.lk ?_
      refine X.gY h3 ?_
      refine X.lk ?_
      refine X.gY h3 ?_
      refine X.idxT (fun h4 => ?_)
      refine X.gY h3 ?_
      refine X.lk ?_
      refine X.gY h3 ?_
      refine X.lk ?_
      refine X.gY h3 ?_
      refine X.call true [] [] (bitset_Has_ok (atD l1.Out x1) x2.1) (fun x3 => ?_)
      refine X.gY h3 ?_
      refine X.lk ?_
      refine X.pT h3 ?_
      refine X.nil ?_
      refine ES.seq ?_
      refine VS.cond (fun h5 => ?_) (fun h5 => ?_)
      · refine VS.region ?_
        refine X.lk ?_
        refine X.lk ?_
        refine X.bs 3 ([x1] : List Int) iRow ?_
        refine X.appMM 4 (l := dead1) (l' := ([x1] : List Int)) (fun h6 => ?_)
        refine X.lk ?_
        refine X.nil ?_
        refine ES.blkN ?_
        refine ES.seq ?_
        refine VS.region ?_
        refine X.ck fun h7 => ?_
        refine X.lk ?_
        refine X.nil ?_
        exact ES.go ih_again1 ((x1 + 1), (dead1 ++ ([x1] : List Int))) ((St.le_mvB _ 4 1 rfl rfl rfl rfl).trans (St.le_sub ⟨rfl, rfl, rfl, rfl, rfl, trivial⟩ ⟨rfl, rfl, trivial⟩ rfl))
      · refine VS.skip ?_
        refine ES.blkN ?_
        refine ES.seq ?_
        refine VS.region ?_
        refine X.ck fun h8 => ?_
        refine X.lk ?_
        refine X.nil ?_
        exact ES.go ih_again1 ((x1 + 1), dead1) (St.le_sub ⟨rfl, rfl, rfl, rfl, rfl, trivial⟩ ⟨rfl, rfl, trivial⟩ rfl)
    · refine X.gN h3 ?_
      refine X.gN h3 ?_
      refine X.gN h3 ?_
      refine X.gN h3 ?_
      refine X.gN h3 ?_
      refine X.gN h3 ?_
      refine X.gN h3 ?_
      refine X.gN h3 ?_
      refine X.pF h3 ?_
      refine X.nil ?_
      refine ES.seq ?_
      refine VS.condF rfl ?_
      refine VS.skip ?_
      refine ES.blkN ?_
      refine ES.seq ?_
      refine VS.region ?_
      refine X.ck fun h9 => ?_
      refine X.lk ?_
      refine X.nil ?_
      exact ES.go ih_again1 ((x1 + 1), dead1) (St.le_sub ⟨rfl, rfl, rfl, rfl, rfl, trivial⟩ ⟨rfl, rfl, trivial⟩ rfl)
  · refine VS.exit ?_
    refine ES.thnE ?_
    refine ES.thnE ?_
    refine ES.blkE ?_
    refine ES.seq ?_
    refine VS.seq ?_
    refine VS.region ?_
    refine X.lk ?_
    refine X.lk ?_
    refine X.nil ?_
    refine ES.seq ?_
    refine VS.ret ?_
    refine ES.ret ?_
    exact Ret.weak (St.le_tree _ 4 1 rfl rfl) (Ret.clo [.c (.v (.tree (dead1.map iRow)))] ⟨rfl, trivial⟩ trivial)
set_option maxHeartbeats 4000000 in
theorem r04_Within_ok (a1 : List Int) (b1 : List Int) : ∀ r : Bool, r04_Within a1 b1 r → FCalls Try.prog 14 [] [.c (.v (.tree (a1.map iRow))), .c (.v (.tree (b1.map iRow)))] (.w (.c (.v (.bool r)))) [] [] := by
  refine fnS 10 ?_
  unfold r04_Within
  refine VS.seq ?_
  refine VS.region ?_
  refine X.lk ?_
  refine X.nil ?_
  refine ES.seq ?_
  refine VS.seq ?_
  refine VS.region ?_
  refine X.lk ?_
  refine X.lk ?_
  refine X.call true [] [] (r04_Minus_ok a1 b1) (fun x1 => ?_)
  refine X.lenT ?_
  refine X.lk ?_
  refine X.lk ?_
  refine X.nil ?_
  refine ES.seq ?_
  refine VS.ret ?_
  refine ES.ret ?_
  exact Ret.clo [.c (.v (.bool (decide ((x1.length : Int) = 0))))] ⟨rfl, trivial⟩ trivial
set_option maxHeartbeats 4000000 in
theorem law20_DeadstoreShrinks_ok (codes1 : List Int) : ∀ r : Bool, law20_DeadstoreShrinks codes1 r → FCalls Try.prog 4 [] [.c (.v (.tree (codes1.map bRow)))] (.w (.c (.v (.bool r)))) [] [] := by
  refine fnS 65 ?_
  unfold law20_DeadstoreShrinks
  refine VS.seq ?_
  refine VS.region ?_
  refine X.lk ?_
  refine X.nil ?_
  refine ES.seq ?_
  refine VS.seq ?_
  refine VS.seq ?_
  refine VS.region ?_
  refine X.call true [] [] law20_awake_ok (fun x1 => ?_)
  refine X.lk ?_
  refine X.nil ?_
  refine ES.seq ?_
  refine VS.cond (fun h1 => ?_) (fun h1 => ?_)
  · refine VS.seq ?_
    refine VS.region ?_
    refine X.lk ?_
    refine X.nil ?_
    refine ES.seq ?_
    refine VS.ret ?_
    refine ES.thnR ?_
    refine ES.ret ?_
    exact Ret.clo [.c (.v (.bool false))] ⟨rfl, trivial⟩ trivial
  · refine VS.skip ?_
    refine ES.seq ?_
    refine VS.seq ?_
    refine VS.region ?_
    refine X.lk ?_
    refine X.callE 0 [] (law20_scene_ok codes1) (fun x2 => ?_)
    refine X.lk ?_
    refine X.lk ?_
    refine X.lk ?_
    refine X.lk ?_
    refine X.lk ?_
    refine X.alloc 1 ?_
    refine X.alloc 2 ?_
    refine X.st ?_
    refine X.st ?_
    refine X.lk ?_
    refine X.lk ?_
    refine X.nil ?_
    refine ES.seq ?_
    refine VS.seq ?_
    refine VS.region ?_
    refine X.lk ?_
    refine X.call true [] [] (r16_Solve_ok x2.1) (fun x3 => ?_)
    refine X.alloc 3 ?_
    refine X.st ?_
    refine X.nil ?_
    refine ES.seq ?_
    refine VS.seq ?_
    refine VS.region ?_
    refine X.lk ?_
    refine X.nil ?_
    refine ES.seq ?_
    refine VS.seq ?_
    refine VS.seq ?_
    refine VS.region ?_
    refine X.lk ?_
    refine X.nil ?_
    refine ES.seq ?_
    refine VS.block ?_
    refine VS.loop (fun jj : Int × List Int => (⟨[(3, .w (.c (.ptr 0 0 0))), (4, .w (.c (.ptr 1 0 0))), (7, .w (.c (.ptr 2 0 0))), (8, .w (.c (.mref 3))), (9, .w (.c (.v (.int .i64 jj.1))))], [some (.bx 34 ((row_AFunc x2.1).map .v)), some (.bx 41 ((row_ALive x2.2.1).map .v)), some (.bx 41 ((row_ALive x3).map .v)), some (.sl 3 1 false (jj.2.map iRow))]⟩ : St)) (j0 := (0, ([] : List Int))) ((St.le_keep _ [3, 4, 7, 8, 9]).trans ((St.le_drop _ 0 (Nat.le_of_ble_eq_true rfl)).trans ((St.le_mvB _ 1 0 rfl rfl rfl rfl).trans ((St.le_mvB _ 2 1 rfl rfl rfl rfl).trans ((St.le_mvB _ 3 2 rfl rfl rfl rfl).trans ((St.le_adopt _ 8 3 3 1 rfl rfl).trans (St.le_sub ⟨rfl, rfl, rfl, rfl, rfl, trivial⟩ ⟨rfl, rfl, rfl, rfl, trivial⟩ rfl))))))) ?_
    rintro n1 again1 ih_again1 ⟨s1, all1⟩
    refine VS.seq ?_
    refine VS.seq ?_
    refine VS.region ?_
    refine X.lk ?_
    refine X.lk ?_
    refine X.lk ?_
    refine X.lenT ?_
    refine X.lk ?_
    refine X.nil ?_
    refine ES.seq ?_
    refine VS.cond (fun h2 => ?_) (fun h2 => ?_)
    · refine VS.skip ?_
      refine ES.seq ?_
      refine VS.seq ?_
      refine VS.block ?_
      refine VS.region ?_
      refine X.lk ?_
      refine X.lk ?_
      refine X.bs 4 ([s1] : List Int) iRow ?_
      refine X.appMM 5 (l := all1) (l' := ([s1] : List Int)) (fun h3 => ?_)
      refine X.lk ?_
      refine X.nil ?_
      refine ES.blkN ?_
      refine ES.seq ?_
      refine VS.region ?_
      refine X.lk ?_
      refine X.ck fun h4 => ?_
      refine X.lk ?_
      refine X.nil ?_
      exact ES.go ih_again1 ((s1 + 1), (all1 ++ ([s1] : List Int))) ((St.le_mvB _ 5 3 rfl rfl rfl rfl).trans (St.le_sub ⟨rfl, rfl, rfl, rfl, rfl, trivial⟩ ⟨rfl, rfl, rfl, rfl, trivial⟩ rfl))
    · refine VS.exit ?_
      refine ES.thnE ?_
      refine ES.thnE ?_
      refine ES.blkE ?_
      refine ES.seq ?_
      refine VS.seq ?_
      refine VS.region ?_
      refine X.lk ?_
      refine X.lk ?_
      refine X.lenT ?_
      refine X.make 4 (α := List Int) (sR iRow) (fun h5 => ?_)
      refine X.build ?_
      refine X.alloc 5 ?_
      refine X.st ?_
      refine X.nil ?_
      refine ES.seq ?_
      refine VS.seq ?_
      refine VS.seq ?_
      refine VS.region ?_
      refine X.lk ?_
      refine X.nil ?_
      refine ES.seq ?_
      refine VS.block ?_
      refine VS.loop (fun jj : List Int × Int × List (List Int) => (⟨[(3, .w (.c (.ptr 0 0 0))), (4, .w (.c (.ptr 1 0 0))), (7, .w (.c (.ptr 2 0 0))), (8, .w (.c (.v (.tree (jj.1.map iRow))))), (10, .w (.c (.ptr 3 0 0))), (11, .w (.c (.v (.int .i64 jj.2.1))))], [some (.bx 34 ((row_AFunc x2.1).map .v)), some (.bx 41 ((row_ALive x2.2.1).map .v)), some (.bx 41 ((row_ALive x3).map .v)), some (.bx 41 [.mref 4]), some (.sl 42 1 false (jj.2.2.map (sR iRow)))]⟩ : St)) (j0 := (all1, 0, (repD (x2.1.Code.length : Int) : List (List Int)))) ((St.le_tree _ 8 3 rfl rfl).trans ((St.le_drop _ 3 (Nat.le_of_ble_eq_true rfl)).trans ((St.le_mvB _ 5 3 rfl rfl rfl rfl).trans (St.le_sub ⟨rfl, rfl, rfl, rfl, rfl, rfl, trivial⟩ ⟨rfl, rfl, rfl, rfl, rfl, trivial⟩ rfl)))) ?_
      rintro n2 again2 ih_again2 ⟨all2, k1, own1⟩
      refine VS.seq ?_
      refine VS.seq ?_
      refine VS.region ?_
      refine X.lk ?_
      refine X.lk ?_
      refine X.lk ?_
      refine X.lenT ?_
      refine X.lk ?_
      refine X.nil ?_
      refine ES.seq ?_
      refine VS.cond (fun h6 => ?_) (fun h6 => ?_)
      · refine VS.skip ?_
        refine ES.seq ?_
        refine VS.seq ?_
        refine VS.block ?_
        refine VS.region ?_
        refine X.lk ?_
        refine X.lk ?_
        refine X.lk ?_
        refine X.lk ?_
        refine X.idxM (l := own1) (i := k1) (fun h7 => ?_)
        refine X.set (i := k1) all2 h7 ?_
        refine X.nil ?_
        refine ES.blkN ?_
        refine ES.seq ?_
        refine VS.region ?_
        refine X.lk ?_
        refine X.ck fun h8 => ?_
        refine X.lk ?_
        refine X.nil ?_
        exact ES.go ih_again2 (all2, (k1 + 1), (setD own1 k1 all2)) (St.le_sub ⟨rfl, rfl, rfl, rfl, rfl, rfl, trivial⟩ ⟨rfl, rfl, rfl, rfl, rfl, trivial⟩ rfl)
      · refine VS.exit ?_
        refine ES.thnE ?_
        refine ES.thnE ?_
        refine ES.blkE ?_
        refine ES.seq ?_
        refine VS.seq ?_
        refine VS.drawn ?_
        refine X.lk ?_
        refine X.lk ?_
        refine X.call true [] [] (deadstore_Dead_ok x2.1 x2.2.1) (fun x4 => ?_)
        refine X.lk ?_
        refine X.lk ?_
        refine X.call true [] [] (deadstore_Dead_ok x2.1 x3) (fun x5 => ?_)
        refine X.call true [] [] (r04_Within_ok x4 x5) (fun x6 => ?_)
        refine X.lk ?_
        refine X.bif (b := x6) (fun h9 => ?_) (fun h9 => ?_)
        · refine X.gY h9 ?_
          refine X.lk ?_
          refine X.gY h9 ?_
          refine X.lk ?_
          refine X.gY h9 ?_
          refine X.call true [(4, .sl 42 1 false (own1.map (sR iRow)))] [] (deadstore_Dead_ok x2.1 (⟨own1⟩ : ALive)) (fun x7 => ?_) (hn := ⟨rfl, trivial⟩)
          refine X.gY h9 ?_
          refine X.lenT ?_
          refine X.gY h9 ?_
          refine X.lk ?_
          refine X.pT h9 ?_
          refine X.lk ?_
          refine X.nilD ?_ (by kernel_rfl)
          refine ES.seq ?_
          refine VS.ret ?_
          refine ES.ret ?_
          exact Ret.clo [.c (.v (.bool (decide ((x7.length : Int) = 0))))] ⟨rfl, trivial⟩ trivial
        · refine X.gN h9 ?_
          refine X.gN h9 ?_
          refine X.gN h9 ?_
          refine X.gN h9 ?_
          refine X.gN h9 ?_
          refine X.pF h9 ?_
          refine X.lk ?_
          refine X.nilD ?_ (by kernel_rfl)
          refine ES.seq ?_
          refine VS.ret ?_
          refine ES.ret ?_
          exact Ret.clo [.c (.v (.bool false))] ⟨rfl, trivial⟩ trivial
set_option maxHeartbeats 4000000 in
theorem law20_DeadstoreNeverReadAgain_ok (codes1 : List Int) : ∀ r : Bool, law20_DeadstoreNeverReadAgain codes1 r → FCalls Try.prog 5 [] [.c (.v (.tree (codes1.map bRow)))] (.w (.c (.v (.bool r)))) [] [] := by
  refine fnS 73 ?_
  unfold law20_DeadstoreNeverReadAgain
  refine VS.seq ?_
  refine VS.region ?_
  refine X.lk ?_
  refine X.nil ?_
  refine ES.seq ?_
  refine VS.seq ?_
  refine VS.seq ?_
  refine VS.region ?_
  refine X.call true [] [] law20_awake_ok (fun x1 => ?_)
  refine X.lk ?_
  refine X.nil ?_
  refine ES.seq ?_
  refine VS.cond (fun h1 => ?_) (fun h1 => ?_)
  · refine VS.seq ?_
    refine VS.region ?_
    refine X.lk ?_
    refine X.nil ?_
    refine ES.seq ?_
    refine VS.ret ?_
    refine ES.thnR ?_
    refine ES.ret ?_
    exact Ret.clo [.c (.v (.bool false))] ⟨rfl, trivial⟩ trivial
  · refine VS.skip ?_
    refine ES.seq ?_
    refine VS.seq ?_
    refine VS.region ?_
    refine X.lk ?_
    refine X.callE 0 [] (law20_scene_ok codes1) (fun x2 => ?_)
    refine X.lk ?_
    refine X.lk ?_
    refine X.lk ?_
    refine X.lk ?_
    refine X.lk ?_
    refine X.alloc 1 ?_
    refine X.alloc 2 ?_
    refine X.st ?_
    refine X.st ?_
    refine X.lk ?_
    refine X.lk ?_
    refine X.nil ?_
    refine ES.seq ?_
    refine VS.seq ?_
    refine VS.region ?_
    refine X.lk ?_
    refine X.lk ?_
    refine X.call true [] [] (deadstore_Dead_ok x2.1 x2.2.1) (fun x3 => ?_)
    refine X.lk ?_
    refine X.nil ?_
    refine ES.seq ?_
    refine VS.seq ?_
    refine VS.region ?_
    refine X.lk ?_
    refine X.call true [] [] (r16_Solve_ok x2.1) (fun x4 => ?_)
    refine X.alloc 3 ?_
    refine X.st ?_
    refine X.nil ?_
    refine ES.seq ?_
    refine VS.seq ?_
    refine VS.seq ?_
    refine VS.region ?_
    refine X.lk ?_
    refine X.nil ?_
    refine ES.seq ?_
    refine VS.block ?_
    refine VS.loop (fun (i1 : Int) => (⟨[(3, .w (.c (.ptr 0 0 0))), (7, .w (.c (.v (.tree (x3.map iRow))))), (8, .w (.c (.ptr 1 0 0))), (9, .w (.c (.v (.int .i64 i1))))], [some (.bx 34 ((row_AFunc x2.1).map .v)), some (.bx 41 ((row_ALive x4).map .v))]⟩ : St)) (j0 := 0) ((St.le_drop _ 0 (Nat.le_of_ble_eq_true rfl)).trans ((St.le_mvB _ 1 0 rfl rfl rfl rfl).trans ((St.le_mvB _ 3 1 rfl rfl rfl rfl).trans (St.le_sub ⟨rfl, rfl, rfl, rfl, trivial⟩ ⟨rfl, rfl, trivial⟩ rfl)))) ?_
    rintro n1 again1 ih_again1 i1
    refine VS.seq ?_
    refine VS.seq ?_
    refine VS.region ?_
    refine X.lk ?_
    refine X.lk ?_
    refine X.lenT ?_
    refine X.lk ?_
    refine X.nil ?_
    refine ES.seq ?_
    refine VS.cond (fun h2 => ?_) (fun h2 => ?_)
    · refine VS.skip ?_
      refine ES.seq ?_
      refine VS.seq ?_
      refine VS.block ?_
      refine VS.seq ?_
      refine VS.seq ?_
      refine VS.drawn ?_
      refine X.lk ?_
      refine X.lk ?_
      refine X.idxT (fun h3 => ?_)
      refine X.lk ?_
      refine X.lk ?_
      refine X.lk ?_
      refine X.bif (b := (decide ((atD x3 i1) < 0))) (fun h4 => ?_) (fun h4 => ?_)
      · refine X.gN h4 ?_
        refine X.gN h4 ?_
        refine X.gN h4 ?_
        refine X.gN h4 ?_
        refine X.gN h4 ?_
        refine X.gN h4 ?_
        refine X.gN h4 ?_
        refine X.gN h4 ?_
        refine X.pT h4 ?_
        refine X.nilD ?_ (by kernel_rfl)
        refine ES.seq ?_
        refine VS.condT rfl ?_
        refine VS.seq ?_
        refine VS.region ?_
        refine X.lk ?_
        refine X.nil ?_
        refine ES.seq ?_
        refine VS.ret ?_
        refine ES.thnR ?_
        refine ES.blkR ?_
        refine ES.thnR ?_
        refine ES.thnR ?_
        refine ES.blkR ?_
        refine ES.thnR ?_
        refine ES.ret ?_
        exact Ret.clo [.c (.v (.bool false))] ⟨rfl, trivial⟩ trivial
      · refine X.gY h4 ?_
        refine X.lk ?_
        refine X.gY h4 ?_
        refine X.lk ?_
        refine X.gY h4 ?_
        refine X.idxT (fun h5 => ?_)
        refine X.gY h4 ?_
        refine X.lk ?_
        refine X.gY h4 ?_
        refine X.lk ?_
        refine X.gY h4 ?_
        refine X.lk ?_
        refine X.gY h4 ?_
        refine X.lenT ?_
        refine X.gY h4 ?_
        refine X.lk ?_
        refine X.pF h4 ?_
        refine X.nilD ?_ (by kernel_rfl)
        refine ES.seq ?_
        refine VS.cond (fun h6 => ?_) (fun h6 => ?_)
        · refine VS.seq ?_
          refine VS.region ?_
          refine X.lk ?_
          refine X.nil ?_
          refine ES.seq ?_
          refine VS.ret ?_
          refine ES.thnR ?_
          refine ES.blkR ?_
          refine ES.thnR ?_
          refine ES.thnR ?_
          refine ES.blkR ?_
          refine ES.thnR ?_
          refine ES.ret ?_
          exact Ret.clo [.c (.v (.bool false))] ⟨rfl, trivial⟩ trivial
        · refine VS.skip ?_
          refine ES.seq ?_
          refine VS.seq ?_
          refine VS.drawn ?_
          refine X.lk ?_
          refine X.lk ?_
          refine X.lk ?_
          refine X.lk ?_
          refine X.idxT (fun h7 => ?_)
          refine X.lk ?_
          refine X.idxT (fun h8 => ?_)
          refine X.lk ?_
          refine X.call true [] [] (r15_Defines_ok (atD x2.1.Code (atD x3 i1))) (fun x5 => ?_)
          refine X.lk ?_
          refine X.lk ?_
          refine X.lk ?_
          refine X.lk ?_
          refine X.lk ?_
          refine X.nilD ?_ (by kernel_rfl)
          refine ES.seq ?_
          refine VS.seq ?_
          refine VS.drawn ?_
          refine X.lk ?_
          refine X.lk ?_
          refine X.lk ?_
          refine X.bif (b := (!x5.2)) (fun h9 => ?_) (fun h9 => ?_)
          · refine X.gN h9 ?_
            refine X.gN h9 ?_
            refine X.gN h9 ?_
            refine X.gN h9 ?_
            refine X.gN h9 ?_
            refine X.gN h9 ?_
            refine X.gN h9 ?_
            refine X.gN h9 ?_
            refine X.gN h9 ?_
            refine X.gN h9 ?_
            refine X.pT h9 ?_
            refine X.nilD ?_ (by kernel_rfl)
            refine ES.seq ?_
            refine VS.condT rfl ?_
            refine VS.seq ?_
            refine VS.region ?_
            refine X.lk ?_
            refine X.nil ?_
            refine ES.seq ?_
            refine VS.ret ?_
            refine ES.blkR ?_
            refine ES.thnR ?_
            refine ES.thnR ?_
            refine ES.blkR ?_
            refine ES.thnR ?_
            refine ES.ret ?_
            exact Ret.clo [.c (.v (.bool false))] ⟨rfl, trivial⟩ trivial
          · refine X.gY h9 ?_
            refine X.lk ?_
            refine X.gY h9 ?_
            refine X.lk ?_
            refine X.gY h9 ?_
            refine X.lk ?_
            refine X.gY h9 ?_
            refine X.lk ?_
            refine X.gY h9 ?_
            refine X.idxT (fun h10 => ?_)
            refine X.gY h9 ?_
            refine X.lk ?_
            refine X.gY h9 ?_
            refine X.idxT (fun h11 => ?_)
            refine X.gY h9 ?_
            refine X.lk ?_
            refine X.gY h9 ?_
            refine X.lk ?_
            refine X.gY h9 ?_
            refine X.call true [] [] (r04_Has_ok (atD x4.Out (atD x3 i1)) x5.1) (fun x6 => ?_)
            refine X.pF h9 ?_
            refine X.nilD ?_ (by kernel_rfl)
            refine ES.seq ?_
            refine VS.cond (fun h12 => ?_) (fun h12 => ?_)
            · refine VS.seq ?_
              refine VS.region ?_
              refine X.lk ?_
              refine X.nil ?_
              refine ES.seq ?_
              refine VS.ret ?_
              refine ES.blkR ?_
              refine ES.thnR ?_
              refine ES.thnR ?_
              refine ES.blkR ?_
              refine ES.thnR ?_
              refine ES.ret ?_
              exact Ret.clo [.c (.v (.bool false))] ⟨rfl, trivial⟩ trivial
            · refine VS.skip ?_
              refine ES.blkN ?_
              refine ES.seq ?_
              refine VS.region ?_
              refine X.lk ?_
              refine X.ck fun h13 => ?_
              refine X.lk ?_
              refine X.nil ?_
              exact ES.go ih_again1 (i1 + 1) (St.le_sub ⟨rfl, rfl, rfl, rfl, trivial⟩ ⟨rfl, rfl, trivial⟩ rfl)
    · refine VS.exit ?_
      refine ES.thnE ?_
      refine ES.thnE ?_
      refine ES.blkE ?_
      refine ES.seq ?_
      refine VS.seq ?_
      refine VS.region ?_
      refine X.lk ?_
      refine X.nil ?_
      refine ES.seq ?_
      refine VS.ret ?_
      refine ES.ret ?_
      exact Ret.clo [.c (.v (.bool true))] ⟨rfl, trivial⟩ trivial
set_option maxHeartbeats 4000000 in
theorem deadstore_Keep_ok (f1 : AFunc) (l1 : ALive) (to1 : List Int) : ∀ r : List Bool, deadstore_Keep f1 l1 to1 r → FCalls Try.prog 18 [] [.agg ((row_AFunc f1).map .v), .agg ((row_ALive l1).map .v), .c (.v (.tree (to1.map iRow)))] (.w (.c (.v (.tree (r.map oRow))))) [] [] := by
  refine fnS 59 ?_
  unfold deadstore_Keep
  refine VS.seq ?_
  refine VS.region ?_
  refine X.box 0 ?_
  refine X.box 1 ?_
  refine X.lk ?_
  refine X.nil ?_
  refine ES.seq ?_
  refine VS.scope ?_
  refine VS.seq ?_
  refine VS.region ?_
  refine X.lk ?_
  refine X.lk ?_
  refine X.lenT ?_
  refine X.make 2 (α := Bool) oRow (fun h1 => ?_)
  refine X.lk ?_
  refine X.nil ?_
  refine ES.seq ?_
  refine VS.seq ?_
  refine VS.region ?_
  refine X.lk ?_
  refine X.lk ?_
  refine X.call true [] [] (deadstore_Dead_ok f1 l1) (fun x1 => ?_)
  refine X.lk ?_
  refine X.nil ?_
  refine ES.seq ?_
  refine VS.seq ?_
  refine VS.label ?_
  refine ES.seq ?_
  refine VS.seq ?_
  refine VS.seq ?_
  refine VS.region ?_
  refine X.lk ?_
  refine X.lk ?_
  refine X.lenT ?_
  refine X.lk ?_
  refine X.nil ?_
  refine ES.seq ?_
  refine VS.block ?_
  refine VS.loop (fun jj : Int × List Bool => (⟨[(2, .w (.c (.v (.tree (to1.map iRow))))), (7, .w (.c (.mref 0))), (8, .w (.c (.v (.tree (x1.map iRow))))), (21, .w (.c (.v (.tree (f1.Code.map row_AInstr))))), (22, .w (.c (.v (.int .i64 (f1.Code.length : Int))))), (23, .w (.c (.v (.int .i64 jj.1))))], [some (.sl 4 1 false (jj.2.map oRow))]⟩ : St)) (j0 := (0, (repD (f1.Code.length : Int) : List Bool))) ((St.le_drop _ 0 (Nat.le_of_ble_eq_true rfl)).trans ((St.le_mvB _ 2 0 rfl rfl rfl rfl).trans (St.le_sub ⟨rfl, rfl, rfl, rfl, rfl, rfl, trivial⟩ ⟨rfl, trivial⟩ rfl))) ?_
  rintro n1 again1 ih_again1 ⟨x2, keep1⟩
  refine VS.seq ?_
  refine VS.region ?_
  refine X.lk ?_
  refine X.nil ?_
  refine ES.seq ?_
  refine VS.seq ?_
  refine VS.cond (fun h2 => ?_) (fun h2 => ?_)
  · refine VS.skip ?_
    refine ES.seq ?_
    refine VS.seq ?_
    refine VS.block ?_
    refine VS.seq ?_
    refine VS.region ?_
    refine X.lk ?_
    refine X.idxT (fun h3 => ?_)
    refine X.lk ?_
    refine X.alloc 1 ?_
    refine X.lk ?_
    refine X.st ?_
    refine X.nil ?_
    refine ES.seq ?_
    refine VS.seq ?_
    refine VS.seq ?_
    refine VS.region ?_
    refine X.lk ?_
    refine X.lenT ?_
    refine X.lk ?_
    refine X.nil ?_
    refine ES.seq ?_
    refine VS.block ?_
    refine VS.loop (fun (x3 : Int) => (⟨[(2, .w (.c (.v (.tree (to1.map iRow))))), (7, .w (.c (.mref 0))), (8, .w (.c (.v (.tree (x1.map iRow))))), (9, .w (.c (.v (.int .i64 x2)))), (10, .w (.c (.ptr 1 0 0))), (21, .w (.c (.v (.tree (f1.Code.map row_AInstr))))), (22, .w (.c (.v (.int .i64 (f1.Code.length : Int))))), (23, .w (.c (.v (.int .i64 x2)))), (28, .w (.c (.v (.tree (x1.map iRow))))), (29, .w (.c (.v (.int .i64 (x1.length : Int))))), (30, .w (.c (.v (.int .i64 x3))))], [some (.sl 4 1 false (keep1.map oRow)), some (.bx 37 ((row_AInstr (atD f1.Code x2)).map .v))]⟩ : St)) (j0 := 0) (St.le_sub ⟨rfl, rfl, rfl, rfl, rfl, rfl, rfl, rfl, rfl, rfl, rfl, trivial⟩ ⟨rfl, rfl, trivial⟩ rfl) ?_
    rintro n2 again2 ih_again2 x3
    refine VS.seq ?_
    refine VS.region ?_
    refine X.lk ?_
    refine X.nil ?_
    refine ES.seq ?_
    refine VS.seq ?_
    refine VS.cond (fun h4 => ?_) (fun h4 => ?_)
    · refine VS.skip ?_
      refine ES.seq ?_
      refine VS.seq ?_
      refine VS.block ?_
      refine VS.seq ?_
      refine VS.region ?_
      refine X.idxT (fun h5 => ?_)
      refine X.lk ?_
      refine X.lk ?_
      refine X.nil ?_
      refine ES.seq ?_
      refine VS.seq ?_
      refine VS.region ?_
      refine X.lk ?_
      refine X.lk ?_
      refine X.lk ?_
      refine X.nil ?_
      refine ES.seq ?_
      refine VS.cond (fun h6 => ?_) (fun h6 => ?_)
      · refine VS.exit ?_
        refine ES.blkF ?_
        refine ES.thnE ?_
        refine ES.thnE ?_
        refine ES.blkF ?_
        refine ES.thnE ?_
        refine ES.blkE ?_
        refine ES.seq ?_
        refine VS.region ?_
        refine X.ck fun h7 => ?_
        refine X.lk ?_
        refine X.nil ?_
        exact ES.go ih_again1 ((x2 + 1), keep1) (St.le_sub ⟨rfl, rfl, rfl, rfl, rfl, rfl, trivial⟩ ⟨rfl, trivial⟩ rfl)
      · refine VS.skip ?_
        refine ES.blkN ?_
        refine ES.seq ?_
        refine VS.region ?_
        refine X.ck fun h8 => ?_
        refine X.lk ?_
        refine X.nil ?_
        exact ES.go ih_again2 (x3 + 1) (St.le_sub ⟨rfl, rfl, rfl, rfl, rfl, rfl, rfl, rfl, rfl, rfl, rfl, trivial⟩ ⟨rfl, rfl, trivial⟩ rfl)
    · refine VS.exit ?_
      refine ES.thnE ?_
      refine ES.thnE ?_
      refine ES.blkE ?_
      refine ES.seq ?_
      refine VS.drawn ?_
      refine X.lk ?_
      refine X.lk ?_
      refine X.lk ?_
      refine X.lk ?_
      refine X.lk ?_
      refine X.lk ?_
      refine X.bif (b := (!decide (((atD f1.Code x2).Op) = 17))) (fun h9 => ?_) (fun h9 => ?_)
      · refine X.gN h9 ?_
        refine X.gN h9 ?_
        refine X.gN h9 ?_
        refine X.gN h9 ?_
        refine X.gN h9 ?_
        refine X.gN h9 ?_
        refine X.gN h9 ?_
        refine X.gN h9 ?_
        refine X.gN h9 ?_
        refine X.gN h9 ?_
        refine X.gN h9 ?_
        refine X.pT h9 ?_
        refine X.idxM (l := keep1) (i := x2) (fun h10 => ?_)
        refine X.set (i := x2) true h10 ?_
        refine X.nilD ?_ (by kernel_rfl)
        refine ES.blkN ?_
        refine ES.seq ?_
        refine VS.region ?_
        refine X.ck fun h11 => ?_
        refine X.lk ?_
        refine X.nil ?_
        exact ES.go ih_again1 ((x2 + 1), (setD keep1 x2 true)) (St.le_sub ⟨rfl, rfl, rfl, rfl, rfl, rfl, trivial⟩ ⟨rfl, trivial⟩ rfl)
      · refine X.gY h9 ?_
        refine X.lk ?_
        refine X.gY h9 ?_
        refine X.lk ?_
        refine X.gY h9 ?_
        refine X.lk ?_
        refine X.gY h9 ?_
        refine X.idxT (fun h12 => ?_)
        refine X.gY h9 ?_
        refine X.lk ?_
        refine X.gY h9 ?_
        refine X.lk ?_
        refine X.gY h9 ?_
        refine X.lk ?_
        refine X.gY h9 ?_
        refine X.lk ?_
        refine X.gY h9 ?_
        refine X.idxT (fun h13 => ?_)
        refine X.gY h9 ?_
        refine X.lk ?_
        refine X.gY h9 ?_
        refine X.lk ?_
        refine X.pF h9 ?_
        refine X.idxM (l := keep1) (i := x2) (fun h14 => ?_)
        refine X.set (i := x2) (!decide ((atD to1 ((atD f1.Code x2).A)) = (atD to1 ((atD f1.Code x2).B)))) h14 ?_
        refine X.nilD ?_ (by kernel_rfl)
        refine ES.blkN ?_
        refine ES.seq ?_
        refine VS.region ?_
        refine X.ck fun h15 => ?_
        refine X.lk ?_
        refine X.nil ?_
        exact ES.go ih_again1 ((x2 + 1), (setD keep1 x2 (!decide ((atD to1 ((atD f1.Code x2).A)) = (atD to1 ((atD f1.Code x2).B)))))) (St.le_sub ⟨rfl, rfl, rfl, rfl, rfl, rfl, trivial⟩ ⟨rfl, trivial⟩ rfl)
  · refine VS.exit ?_
    refine ES.thnE ?_
    refine ES.thnE ?_
    refine ES.blkE ?_
    refine ES.seq ?_
    refine VS.seq ?_
    refine VS.region ?_
    refine X.lk ?_
    refine X.lk ?_
    refine X.nil ?_
    refine ES.seq ?_
    refine VS.ret ?_
    refine ES.ret ?_
    exact Ret.weak (St.le_tree _ 6 0 rfl rfl) (Ret.clo [.c (.v (.tree (keep1.map oRow)))] ⟨rfl, trivial⟩ trivial)
set_option maxHeartbeats 4000000 in
theorem r20_dead_ok (f1 : AFunc) (l1 : ALive) (k1 : Int) : ∀ r : Bool, r20_dead f1 l1 k1 r → FCalls Try.prog 37 [] [.agg ((row_AFunc f1).map .v), .agg ((row_ALive l1).map .v), .c (.v (.int .i64 k1))] (.w (.c (.v (.bool r)))) [] [] := by
  refine fnS 29 ?_
  unfold r20_dead
  refine VS.seq ?_
  refine VS.region ?_
  refine X.box 0 ?_
  refine X.box 1 ?_
  refine X.lk ?_
  refine X.nil ?_
  refine ES.seq ?_
  refine VS.seq ?_
  refine VS.region ?_
  refine X.lk ?_
  refine X.lk ?_
  refine X.lk ?_
  refine X.idxT (fun h1 => ?_)
  refine X.lk ?_
  refine X.call true [] [] (r15_Defines_ok (atD f1.Code k1)) (fun x1 => ?_)
  refine X.lk ?_
  refine X.lk ?_
  refine X.lk ?_
  refine X.lk ?_
  refine X.lk ?_
  refine X.nil ?_
  refine ES.seq ?_
  refine VS.seq ?_
  refine VS.region ?_
  refine X.lk ?_
  refine X.lk ?_
  refine X.bif (b := x1.2) (fun h2 => ?_) (fun h2 => ?_)
  · refine X.gY h2 ?_
    refine X.lk ?_
    refine X.gY h2 ?_
    refine X.lk ?_
    refine X.gY h2 ?_
    refine X.lk ?_
    refine X.gY h2 ?_
    refine X.idxT (fun h3 => ?_)
    refine X.gY h2 ?_
    refine X.lk ?_
    refine X.gY h2 ?_
    refine X.lk ?_
    refine X.gY h2 ?_
    refine X.call true [] [] (r04_Has_ok (atD l1.Out k1) x1.1) (fun x2 => ?_)
    refine X.gY h2 ?_
    refine X.lk ?_
    refine X.pT h2 ?_
    refine X.lk ?_
    refine X.nil ?_
    refine ES.seq ?_
    refine VS.ret ?_
    refine ES.ret ?_
    exact Ret.clo [.c (.v (.bool (!x2)))] ⟨rfl, trivial⟩ trivial
  · refine X.gN h2 ?_
    refine X.gN h2 ?_
    refine X.gN h2 ?_
    refine X.gN h2 ?_
    refine X.gN h2 ?_
    refine X.gN h2 ?_
    refine X.gN h2 ?_
    refine X.gN h2 ?_
    refine X.pF h2 ?_
    refine X.lk ?_
    refine X.nil ?_
    refine ES.seq ?_
    refine VS.ret ?_
    refine ES.ret ?_
    exact Ret.clo [.c (.v (.bool false))] ⟨rfl, trivial⟩ trivial
set_option maxHeartbeats 4000000 in
theorem r20_Keep_ok (f1 : AFunc) (l1 : ALive) (to1 : List Int) : ∀ r : List Bool, r20_Keep f1 l1 to1 r → FCalls Try.prog 19 [] [.agg ((row_AFunc f1).map .v), .agg ((row_ALive l1).map .v), .c (.v (.tree (to1.map iRow)))] (.w (.c (.v (.tree (r.map oRow))))) [] [] := by
  refine fnS 50 ?_
  unfold r20_Keep
  refine VS.seq ?_
  refine VS.region ?_
  refine X.box 0 ?_
  refine X.box 1 ?_
  refine X.lk ?_
  refine X.nil ?_
  refine ES.seq ?_
  refine VS.seq ?_
  refine VS.region ?_
  refine X.lk ?_
  refine X.nil ?_
  refine ES.seq ?_
  refine VS.seq ?_
  refine VS.seq ?_
  refine VS.region ?_
  refine X.lk ?_
  refine X.nil ?_
  refine ES.seq ?_
  refine VS.block ?_
  refine VS.loop (fun jj : Int × List Bool => (⟨[(2, .w (.c (.v (.tree (to1.map iRow))))), (3, .w (.c (.ptr 0 0 0))), (4, .w (.c (.ptr 1 0 0))), (7, .w (.c (.mref 2))), (8, .w (.c (.v (.int .i64 jj.1))))], [some (.bx 34 ((row_AFunc f1).map .v)), some (.bx 41 ((row_ALive l1).map .v)), some (.sl 4 1 false (jj.2.map oRow))]⟩ : St)) (j0 := (0, ([] : List Bool))) ((St.le_keep _ [2, 3, 4, 7, 8]).trans ((St.le_adopt _ 7 2 4 1 rfl rfl).trans (St.le_sub ⟨rfl, rfl, rfl, rfl, rfl, trivial⟩ ⟨rfl, rfl, rfl, trivial⟩ rfl))) ?_
  rintro n1 again1 ih_again1 ⟨k1, out1⟩
  refine VS.seq ?_
  refine VS.seq ?_
  refine VS.region ?_
  refine X.lk ?_
  refine X.lk ?_
  refine X.lk ?_
  refine X.lenT ?_
  refine X.lk ?_
  refine X.nil ?_
  refine ES.seq ?_
  refine VS.cond (fun h1 => ?_) (fun h1 => ?_)
  · refine VS.skip ?_
    refine ES.seq ?_
    refine VS.seq ?_
    refine VS.block ?_
    refine VS.seq ?_
    refine VS.region ?_
    refine X.lk ?_
    refine X.lk ?_
    refine X.lk ?_
    refine X.idxT (fun h2 => ?_)
    refine X.lk ?_
    refine X.alloc 3 ?_
    refine X.st ?_
    refine X.nil ?_
    refine ES.seq ?_
    refine VS.drawn ?_
    refine X.lk ?_
    refine X.lk ?_
    refine X.lk ?_
    refine X.lk ?_
    refine X.call true [] [] (r20_dead_ok f1 l1 k1) (fun x1 => ?_)
    refine X.lk ?_
    refine X.lk ?_
    refine X.bif (b := (!x1)) (fun h3 => ?_) (fun h3 => ?_)
    · refine X.gY h3 ?_
      refine X.lk ?_
      refine X.gY h3 ?_
      refine X.lk ?_
      refine X.gY h3 ?_
      refine X.lk ?_
      refine X.gY h3 ?_
      refine X.lk ?_
      refine X.bif (b := (decide (((atD f1.Code k1).Op) = 17))) (fun h4 => ?_) (fun h4 => ?_)
      · refine X.gY h4 ?_
        refine X.lk ?_
        refine X.gY h4 ?_
        refine X.lk ?_
        refine X.gY h4 ?_
        refine X.lk ?_
        refine X.gY h4 ?_
        refine X.idxT (fun h5 => ?_)
        refine X.gY h4 ?_
        refine X.lk ?_
        refine X.gY h4 ?_
        refine X.lk ?_
        refine X.gY h4 ?_
        refine X.lk ?_
        refine X.gY h4 ?_
        refine X.lk ?_
        refine X.gY h4 ?_
        refine X.idxT (fun h6 => ?_)
        refine X.gY h4 ?_
        refine X.lk ?_
        refine X.gY h4 ?_
        refine X.lk ?_
        refine X.gY h3 ?_
        refine X.pT h4 ?_
        refine X.gY h3 ?_
        refine X.lk ?_
        refine X.pT h3 ?_
        refine X.bs 4 ([(!(decide ((atD to1 ((atD f1.Code k1).A)) = (atD to1 ((atD f1.Code k1).B)))))] : List Bool) oRow ?_
        refine X.appMM 5 (l := out1) (l' := ([(!(decide ((atD to1 ((atD f1.Code k1).A)) = (atD to1 ((atD f1.Code k1).B)))))] : List Bool)) (fun h7 => ?_)
        refine X.lk ?_
        refine X.nilD ?_ (by kernel_rfl)
        refine ES.blkN ?_
        refine ES.seq ?_
        refine VS.region ?_
        refine X.lk ?_
        refine X.ck fun h8 => ?_
        refine X.lk ?_
        refine X.nil ?_
        exact ES.go ih_again1 ((k1 + 1), (out1 ++ ([(!(decide ((atD to1 ((atD f1.Code k1).A)) = (atD to1 ((atD f1.Code k1).B)))))] : List Bool))) ((St.le_mvB _ 5 2 rfl rfl rfl rfl).trans (St.le_sub ⟨rfl, rfl, rfl, rfl, rfl, trivial⟩ ⟨rfl, rfl, rfl, trivial⟩ rfl))
      · refine X.gN h4 ?_
        refine X.gN h4 ?_
        refine X.gN h4 ?_
        refine X.gN h4 ?_
        refine X.gN h4 ?_
        refine X.gN h4 ?_
        refine X.gN h4 ?_
        refine X.gN h4 ?_
        refine X.gN h4 ?_
        refine X.gN h4 ?_
        refine X.gN h4 ?_
        refine X.gY h3 ?_
        refine X.pF h4 ?_
        refine X.gY h3 ?_
        refine X.lk ?_
        refine X.pT h3 ?_
        refine X.bs 4 ([(!false)] : List Bool) oRow ?_
        refine X.appMM 5 (l := out1) (l' := ([(!false)] : List Bool)) (fun h9 => ?_)
        refine X.lk ?_
        refine X.nilD ?_ (by kernel_rfl)
        refine ES.blkN ?_
        refine ES.seq ?_
        refine VS.region ?_
        refine X.lk ?_
        refine X.ck fun h10 => ?_
        refine X.lk ?_
        refine X.nil ?_
        exact ES.go ih_again1 ((k1 + 1), (out1 ++ ([(!false)] : List Bool))) ((St.le_mvB _ 5 2 rfl rfl rfl rfl).trans (St.le_sub ⟨rfl, rfl, rfl, rfl, rfl, trivial⟩ ⟨rfl, rfl, rfl, trivial⟩ rfl))
    · refine X.gN h3 ?_
      refine X.gN h3 ?_
      refine X.gN h3 ?_
      refine X.gN h3 ?_
      refine X.gU ?_
      refine X.gU ?_
      refine X.gU ?_
      refine X.gU ?_
      refine X.gU ?_
      refine X.gU ?_
      refine X.gU ?_
      refine X.gU ?_
      refine X.gU ?_
      refine X.gU ?_
      refine X.gU ?_
      refine X.gN h3 ?_
      refine X.gN h3 ?_
      refine X.pF h3 ?_
      refine X.bs 4 ([false] : List Bool) oRow ?_
      refine X.appMM 5 (l := out1) (l' := ([false] : List Bool)) (fun h11 => ?_)
      refine X.lk ?_
      refine X.nilD ?_ (by kernel_rfl)
      refine ES.blkN ?_
      refine ES.seq ?_
      refine VS.region ?_
      refine X.lk ?_
      refine X.ck fun h12 => ?_
      refine X.lk ?_
      refine X.nil ?_
      exact ES.go ih_again1 ((k1 + 1), (out1 ++ ([false] : List Bool))) ((St.le_mvB _ 5 2 rfl rfl rfl rfl).trans (St.le_sub ⟨rfl, rfl, rfl, rfl, rfl, trivial⟩ ⟨rfl, rfl, rfl, trivial⟩ rfl))
  · refine VS.exit ?_
    refine ES.thnE ?_
    refine ES.thnE ?_
    refine ES.blkE ?_
    refine ES.seq ?_
    refine VS.seq ?_
    refine VS.region ?_
    refine X.lk ?_
    refine X.lk ?_
    refine X.nil ?_
    refine ES.seq ?_
    refine VS.ret ?_
    refine ES.ret ?_
    exact Ret.weak (St.le_tree _ 6 2 rfl rfl) (Ret.clo [.c (.v (.tree (out1.map oRow)))] ⟨rfl, trivial⟩ trivial)
set_option maxHeartbeats 4000000 in
theorem r20_Dead_ok (f1 : AFunc) (l1 : ALive) : ∀ r : List Int, r20_Dead f1 l1 r → FCalls Try.prog 21 [] [.agg ((row_AFunc f1).map .v), .agg ((row_ALive l1).map .v)] (.w (.c (.v (.tree (r.map iRow))))) [] [] := by
  refine fnS 23 ?_
  unfold r20_Dead
  refine VS.seq ?_
  refine VS.region ?_
  refine X.box 0 ?_
  refine X.box 1 ?_
  refine X.lk ?_
  refine X.nil ?_
  refine ES.seq ?_
  refine VS.seq ?_
  refine VS.region ?_
  refine X.lk ?_
  refine X.nil ?_
  refine ES.seq ?_
  refine VS.seq ?_
  refine VS.seq ?_
  refine VS.region ?_
  refine X.lk ?_
  refine X.nil ?_
  refine ES.seq ?_
  refine VS.block ?_
  refine VS.loop (fun jj : Int × List Int => (⟨[(2, .w (.c (.ptr 0 0 0))), (3, .w (.c (.ptr 1 0 0))), (5, .w (.c (.mref 2))), (6, .w (.c (.v (.int .i64 jj.1))))], [some (.bx 34 ((row_AFunc f1).map .v)), some (.bx 41 ((row_ALive l1).map .v)), some (.sl 3 1 false (jj.2.map iRow))]⟩ : St)) (j0 := (0, ([] : List Int))) ((St.le_keep _ [2, 3, 5, 6]).trans ((St.le_adopt _ 5 2 3 1 rfl rfl).trans (St.le_sub ⟨rfl, rfl, rfl, rfl, trivial⟩ ⟨rfl, rfl, rfl, trivial⟩ rfl))) ?_
  rintro n1 again1 ih_again1 ⟨k1, out1⟩
  refine VS.seq ?_
  refine VS.seq ?_
  refine VS.region ?_
  refine X.lk ?_
  refine X.lk ?_
  refine X.lk ?_
  refine X.lenT ?_
  refine X.lk ?_
  refine X.nil ?_
  refine ES.seq ?_
  refine VS.cond (fun h1 => ?_) (fun h1 => ?_)
  · refine VS.skip ?_
    refine ES.seq ?_
    refine VS.seq ?_
    refine VS.block ?_
    refine VS.seq ?_
    refine VS.region ?_
    refine X.lk ?_
    refine X.lk ?_
    refine X.lk ?_
    refine X.call true [] [] (r20_dead_ok f1 l1 k1) (fun x1 => ?_)
    refine X.nil ?_
    refine ES.seq ?_
    refine VS.cond (fun h2 => ?_) (fun h2 => ?_)
    · refine VS.region ?_
      refine X.lk ?_
      refine X.lk ?_
      refine X.bs 3 ([k1] : List Int) iRow ?_
      refine X.appMM 4 (l := out1) (l' := ([k1] : List Int)) (fun h3 => ?_)
      refine X.lk ?_
      refine X.nil ?_
      refine ES.blkN ?_
      refine ES.seq ?_
      refine VS.region ?_
      refine X.lk ?_
      refine X.ck fun h4 => ?_
      refine X.lk ?_
      refine X.nil ?_
      exact ES.go ih_again1 ((k1 + 1), (out1 ++ ([k1] : List Int))) ((St.le_mvB _ 4 2 rfl rfl rfl rfl).trans (St.le_sub ⟨rfl, rfl, rfl, rfl, trivial⟩ ⟨rfl, rfl, rfl, trivial⟩ rfl))
    · refine VS.skip ?_
      refine ES.blkN ?_
      refine ES.seq ?_
      refine VS.region ?_
      refine X.lk ?_
      refine X.ck fun h5 => ?_
      refine X.lk ?_
      refine X.nil ?_
      exact ES.go ih_again1 ((k1 + 1), out1) (St.le_sub ⟨rfl, rfl, rfl, rfl, trivial⟩ ⟨rfl, rfl, rfl, trivial⟩ rfl)
  · refine VS.exit ?_
    refine ES.thnE ?_
    refine ES.thnE ?_
    refine ES.blkE ?_
    refine ES.seq ?_
    refine VS.seq ?_
    refine VS.region ?_
    refine X.lk ?_
    refine X.lk ?_
    refine X.nil ?_
    refine ES.seq ?_
    refine VS.ret ?_
    refine ES.ret ?_
    exact Ret.weak (St.le_tree _ 4 2 rfl rfl) (Ret.clo [.c (.v (.tree (out1.map iRow)))] ⟨rfl, trivial⟩ trivial)
set_option maxHeartbeats 4000000 in
theorem r20_Count_ok (keep1 : List Bool) : ∀ r : Int, r20_Count keep1 r → FCalls Try.prog 23 [] [.c (.v (.tree (keep1.map oRow)))] (.w (.c (.v (.int .i64 r)))) [] [] := by
  refine fnS 19 ?_
  unfold r20_Count
  refine VS.seq ?_
  refine VS.region ?_
  refine X.lk ?_
  refine X.nil ?_
  refine ES.seq ?_
  refine VS.seq ?_
  refine VS.region ?_
  refine X.lk ?_
  refine X.nil ?_
  refine ES.seq ?_
  refine VS.seq ?_
  refine VS.seq ?_
  refine VS.region ?_
  refine X.lk ?_
  refine X.nil ?_
  refine ES.seq ?_
  refine VS.block ?_
  refine VS.loop (fun jj : Int × Int => (⟨[(0, .w (.c (.v (.tree (keep1.map oRow))))), (3, .w (.c (.v (.int .i64 jj.1)))), (4, .w (.c (.v (.int .i64 jj.2))))], []⟩ : St)) (j0 := (0, 0)) (St.le_sub ⟨rfl, rfl, rfl, trivial⟩ trivial rfl) ?_
  rintro n2 again1 ih_again1 ⟨n1, k1⟩
  refine VS.seq ?_
  refine VS.seq ?_
  refine VS.region ?_
  refine X.lk ?_
  refine X.lk ?_
  refine X.lenT ?_
  refine X.lk ?_
  refine X.nil ?_
  refine ES.seq ?_
  refine VS.cond (fun h1 => ?_) (fun h1 => ?_)
  · refine VS.skip ?_
    refine ES.seq ?_
    refine VS.seq ?_
    refine VS.block ?_
    refine VS.seq ?_
    refine VS.region ?_
    refine X.lk ?_
    refine X.lk ?_
    refine X.idxT (fun h2 => ?_)
    refine X.lk ?_
    refine X.lk ?_
    refine X.nil ?_
    refine ES.seq ?_
    refine VS.cond (fun h3 => ?_) (fun h3 => ?_)
    · refine VS.region ?_
      refine X.lk ?_
      refine X.ck fun h4 => ?_
      refine X.lk ?_
      refine X.nil ?_
      refine ES.blkN ?_
      refine ES.seq ?_
      refine VS.region ?_
      refine X.lk ?_
      refine X.ck fun h5 => ?_
      refine X.lk ?_
      refine X.nil ?_
      exact ES.go ih_again1 ((n1 + 1), (k1 + 1)) (St.le_sub ⟨rfl, rfl, rfl, trivial⟩ trivial rfl)
    · refine VS.skip ?_
      refine ES.blkN ?_
      refine ES.seq ?_
      refine VS.region ?_
      refine X.lk ?_
      refine X.ck fun h6 => ?_
      refine X.lk ?_
      refine X.nil ?_
      exact ES.go ih_again1 (n1, (k1 + 1)) (St.le_sub ⟨rfl, rfl, rfl, trivial⟩ trivial rfl)
  · refine VS.exit ?_
    refine ES.thnE ?_
    refine ES.thnE ?_
    refine ES.blkE ?_
    refine ES.seq ?_
    refine VS.seq ?_
    refine VS.region ?_
    refine X.lk ?_
    refine X.lk ?_
    refine X.nil ?_
    refine ES.seq ?_
    refine VS.ret ?_
    refine ES.ret ?_
    exact Ret.clo [.c (.v (.int .i64 n1))] ⟨rfl, trivial⟩ trivial
set_option maxHeartbeats 4000000 in
theorem law20_DeadstoreKeep_ok (codes1 : List Int) (raw1 : List Bool) : ∀ r : Bool, law20_DeadstoreKeep codes1 raw1 r → FCalls Try.prog 6 [] [.c (.v (.tree (codes1.map bRow))), .c (.v (.tree (raw1.map oRow)))] (.w (.c (.v (.bool r)))) [] [] := by
  refine fnS 78 ?_
  unfold law20_DeadstoreKeep
  refine VS.seq ?_
  refine VS.region ?_
  refine X.lk ?_
  refine X.nil ?_
  refine ES.seq ?_
  refine VS.seq ?_
  refine VS.seq ?_
  refine VS.region ?_
  refine X.call true [] [] law20_awake_ok (fun x1 => ?_)
  refine X.lk ?_
  refine X.lk ?_
  refine X.bif (b := (!x1)) (fun h1 => ?_) (fun h1 => ?_)
  · refine X.gN h1 ?_
    refine X.gN h1 ?_
    refine X.gN h1 ?_
    refine X.pT h1 ?_
    refine X.nil ?_
    refine ES.seq ?_
    refine VS.condT rfl ?_
    refine VS.seq ?_
    refine VS.region ?_
    refine X.lk ?_
    refine X.lenT ?_
    refine X.lk ?_
    refine X.lk ?_
    refine X.nil ?_
    refine ES.seq ?_
    refine VS.ret ?_
    refine ES.thnR ?_
    refine ES.ret ?_
    exact Ret.clo [.c (.v (.bool (decide (2000 < (raw1.length : Int)))))] ⟨rfl, trivial⟩ trivial
  · refine X.gY h1 ?_
    refine X.lk ?_
    refine X.gY h1 ?_
    refine X.lenT ?_
    refine X.gY h1 ?_
    refine X.lk ?_
    refine X.pF h1 ?_
    refine X.nil ?_
    refine ES.seq ?_
    refine VS.cond (fun h2 => ?_) (fun h2 => ?_)
    · refine VS.seq ?_
      refine VS.region ?_
      refine X.lk ?_
      refine X.lenT ?_
      refine X.lk ?_
      refine X.lk ?_
      refine X.nil ?_
      refine ES.seq ?_
      refine VS.ret ?_
      refine ES.thnR ?_
      refine ES.ret ?_
      exact Ret.clo [.c (.v (.bool (decide (2000 < (raw1.length : Int)))))] ⟨rfl, trivial⟩ trivial
    · refine VS.skip ?_
      refine ES.seq ?_
      refine VS.seq ?_
      refine VS.region ?_
      refine X.lk ?_
      refine X.callE 0 [] (law20_scene_ok codes1) (fun x2 => ?_)
      refine X.lk ?_
      refine X.lk ?_
      refine X.lk ?_
      refine X.lk ?_
      refine X.lk ?_
      refine X.alloc 1 ?_
      refine X.alloc 2 ?_
      refine X.st ?_
      refine X.st ?_
      refine X.lk ?_
      refine X.lk ?_
      refine X.nil ?_
      refine ES.seq ?_
      refine VS.seq ?_
      refine VS.drawn ?_
      refine X.lk ?_
      refine X.lk ?_
      refine X.lk ?_
      refine X.call true [] [] (deadstore_Keep_ok x2.1 x2.2.1 x2.2.2.1) (fun x3 => ?_)
      refine X.lk ?_
      refine X.lk ?_
      refine X.lk ?_
      refine X.call true [] [] (r20_Keep_ok x2.1 x2.2.1 x2.2.2.1) (fun x4 => ?_)
      refine X.lk ?_
      refine X.lk ?_
      refine X.nilD ?_ (by kernel_rfl)
      refine ES.seq ?_
      refine VS.seq ?_
      refine VS.seq ?_
      refine VS.region ?_
      refine X.lk ?_
      refine X.lenT ?_
      refine X.lk ?_
      refine X.lenT ?_
      refine X.lk ?_
      refine X.nil ?_
      refine ES.seq ?_
      refine VS.cond (fun h3 => ?_) (fun h3 => ?_)
      · refine VS.seq ?_
        refine VS.region ?_
        refine X.lk ?_
        refine X.nil ?_
        refine ES.seq ?_
        refine VS.ret ?_
        refine ES.thnR ?_
        refine ES.ret ?_
        exact Ret.clo [.c (.v (.bool false))] ⟨rfl, trivial⟩ trivial
      · refine VS.skip ?_
        refine ES.seq ?_
        refine VS.seq ?_
        refine VS.seq ?_
        refine VS.region ?_
        refine X.lk ?_
        refine X.nil ?_
        refine ES.seq ?_
        refine VS.block ?_
        refine VS.loop (fun (k1 : Int) => (⟨[(1, .w (.c (.v (.tree (raw1.map oRow))))), (5, .w (.c (.ptr 0 0 0))), (6, .w (.c (.ptr 1 0 0))), (9, .w (.c (.v (.tree (x3.map oRow))))), (10, .w (.c (.v (.tree (x4.map oRow))))), (11, .w (.c (.v (.int .i64 k1))))], [some (.bx 34 ((row_AFunc x2.1).map .v)), some (.bx 41 ((row_ALive x2.2.1).map .v))]⟩ : St)) (j0 := 0) ((St.le_drop _ 0 (Nat.le_of_ble_eq_true rfl)).trans ((St.le_mvB _ 1 0 rfl rfl rfl rfl).trans ((St.le_mvB _ 2 1 rfl rfl rfl rfl).trans (St.le_sub ⟨rfl, rfl, rfl, rfl, rfl, rfl, trivial⟩ ⟨rfl, rfl, trivial⟩ rfl)))) ?_
        rintro n1 again1 ih_again1 k1
        refine VS.seq ?_
        refine VS.seq ?_
        refine VS.region ?_
        refine X.lk ?_
        refine X.lk ?_
        refine X.lenT ?_
        refine X.lk ?_
        refine X.nil ?_
        refine ES.seq ?_
        refine VS.cond (fun h4 => ?_) (fun h4 => ?_)
        · refine VS.skip ?_
          refine ES.seq ?_
          refine VS.seq ?_
          refine VS.block ?_
          refine VS.seq ?_
          refine VS.drawn ?_
          refine X.lk ?_
          refine X.lk ?_
          refine X.idxT (fun h5 => ?_)
          refine X.lk ?_
          refine X.lk ?_
          refine X.lk ?_
          refine X.idxT (fun h6 => ?_)
          refine X.lk ?_
          refine X.lk ?_
          refine X.nilD ?_ (by kernel_rfl)
          refine ES.seq ?_
          refine VS.cond (fun h7 => ?_) (fun h7 => ?_)
          · refine VS.seq ?_
            refine VS.region ?_
            refine X.lk ?_
            refine X.nil ?_
            refine ES.seq ?_
            refine VS.ret ?_
            refine ES.blkR ?_
            refine ES.thnR ?_
            refine ES.thnR ?_
            refine ES.blkR ?_
            refine ES.thnR ?_
            refine ES.ret ?_
            exact Ret.clo [.c (.v (.bool false))] ⟨rfl, trivial⟩ trivial
          · refine VS.skip ?_
            refine ES.blkN ?_
            refine ES.seq ?_
            refine VS.region ?_
            refine X.lk ?_
            refine X.ck fun h8 => ?_
            refine X.lk ?_
            refine X.nil ?_
            exact ES.go ih_again1 (k1 + 1) (St.le_sub ⟨rfl, rfl, rfl, rfl, rfl, rfl, trivial⟩ ⟨rfl, rfl, trivial⟩ rfl)
        · refine VS.exit ?_
          refine ES.thnE ?_
          refine ES.thnE ?_
          refine ES.blkE ?_
          refine ES.seq ?_
          refine VS.seq ?_
          refine VS.drawn ?_
          refine X.lk ?_
          refine X.lk ?_
          refine X.call true [] [] (deadstore_Dead_ok x2.1 x2.2.1) (fun x5 => ?_)
          refine X.lk ?_
          refine X.lk ?_
          refine X.call true [] [] (r20_Dead_ok x2.1 x2.2.1) (fun x6 => ?_)
          refine X.call true [] [] (r04_Same_ok x5 x6) (fun x7 => ?_)
          refine X.lk ?_
          refine X.bif (b := x7) (fun h9 => ?_) (fun h9 => ?_)
          · refine X.gY h9 ?_
            refine X.lk ?_
            refine X.gY h9 ?_
            refine X.call true [] [] (deadstore_Count_ok x3) (fun x8 => ?_)
            refine X.gY h9 ?_
            refine X.lk ?_
            refine X.gY h9 ?_
            refine X.call true [] [] (r20_Count_ok x4) (fun x9 => ?_)
            refine X.gY h9 ?_
            refine X.lk ?_
            refine X.pT h9 ?_
            refine X.lk ?_
            refine X.bif (b := (decide (x8 = x9))) (fun h10 => ?_) (fun h10 => ?_)
            · refine X.gY h10 ?_
              refine X.lk ?_
              refine X.gY h10 ?_
              refine X.call true [] [] (deadstore_Count_ok raw1) (fun x10 => ?_)
              refine X.gY h10 ?_
              refine X.lk ?_
              refine X.gY h10 ?_
              refine X.call true [] [] (r20_Count_ok raw1) (fun x11 => ?_)
              refine X.gY h10 ?_
              refine X.lk ?_
              refine X.pT h10 ?_
              refine X.lk ?_
              refine X.nilD ?_ (by kernel_rfl)
              refine ES.seq ?_
              refine VS.ret ?_
              refine ES.ret ?_
              exact Ret.clo [.c (.v (.bool (decide (x10 = x11))))] ⟨rfl, trivial⟩ trivial
            · refine X.gN h10 ?_
              refine X.gN h10 ?_
              refine X.gN h10 ?_
              refine X.gN h10 ?_
              refine X.gN h10 ?_
              refine X.pF h10 ?_
              refine X.lk ?_
              refine X.nilD ?_ (by kernel_rfl)
              refine ES.seq ?_
              refine VS.ret ?_
              refine ES.ret ?_
              exact Ret.clo [.c (.v (.bool false))] ⟨rfl, trivial⟩ trivial
          · refine X.gN h9 ?_
            refine X.gN h9 ?_
            refine X.gN h9 ?_
            refine X.gN h9 ?_
            refine X.gN h9 ?_
            refine X.pF h9 ?_
            refine X.lk ?_
            refine X.gN rfl ?_
            refine X.gN rfl ?_
            refine X.gN rfl ?_
            refine X.gN rfl ?_
            refine X.gN rfl ?_
            refine X.pF rfl ?_
            refine X.lk ?_
            refine X.nilD ?_ (by kernel_rfl)
            refine ES.seq ?_
            refine VS.ret ?_
            refine ES.ret ?_
            exact Ret.clo [.c (.v (.bool false))] ⟨rfl, trivial⟩ trivial
end Go.Proofs.Ytjfkdjlmajfljaa.Q
