/- Walks of functions: the code does what the lifted text says (written by a program). -/
import Derived.Test.YtbppgdffochdmaaGw4
set_option linter.unusedVariables false
set_option linter.unusedSimpArgs false
set_option maxRecDepth 8000
namespace Go.Proofs.Ytbppgdffochdmaa.Q
open Go.RowKit
set_option maxHeartbeats 4000000 in
theorem r20_Keep_ok (f1 : AFunc) (l1 : ALive) (to1 : List Int) : ∀ r : List Bool, r20_Keep f1 l1 to1 r → FCalls Try.prog 91 [] [.agg ((row_AFunc f1).map .v), .agg ((row_ALive l1).map .v), .c (.v (.tree (to1.map iRow)))] (.w (.c (.v (.tree (r.map oRow))))) [] [] := by
  refine fnS 50 ?_
  unfold r20_Keep
  refine VS.seq ?_
  refine VS.region ?_
  refine X.box 0 ?_
  refine X.box 1 ?_
  refine X.lk ?_
  refine X.nil ?_
  refine ES.seq ?_
  refine VS.seq ?_
  refine VS.region ?_
  refine X.lk ?_
  refine X.nil ?_
  refine ES.seq ?_
  refine VS.seq ?_
  refine VS.seq ?_
  refine VS.region ?_
  refine X.lk ?_
  refine X.nil ?_
  refine ES.seq ?_
  refine VS.block ?_
  refine VS.loop (fun jj : Int × List Bool => (⟨[(2, .w (.c (.v (.tree (to1.map iRow))))), (3, .w (.c (.ptr 0 0 0))), (4, .w (.c (.ptr 1 0 0))), (7, .w (.c (.mref 2))), (8, .w (.c (.v (.int .i64 jj.1))))], [some (.bx 35 ((row_AFunc f1).map .v)), some (.bx 86 ((row_ALive l1).map .v)), some (.sl 4 1 false (jj.2.map oRow))]⟩ : St)) (j0 := (0, ([] : List Bool))) ((St.le_keep _ [2, 3, 4, 7, 8]).trans ((St.le_adopt _ 7 2 4 1 rfl rfl).trans (St.le_sub ⟨rfl, rfl, rfl, rfl, rfl, trivial⟩ ⟨rfl, rfl, rfl, trivial⟩ rfl))) ?_
  rintro n1 again1 ih_again1 ⟨k1, out1⟩
  refine VS.seq ?_
  refine VS.seq ?_
  refine VS.region ?_
  refine X.lk ?_
  refine X.lk ?_
  refine X.lk ?_
  refine X.lenT ?_
  refine X.lk ?_
  refine X.nil ?_
  refine ES.seq ?_
  refine VS.cond (fun h1 => ?_) (fun h1 => ?_)
  · refine VS.skip ?_
    refine ES.seq ?_
    refine VS.seq ?_
    refine VS.block ?_
    refine VS.seq ?_
    refine VS.region ?_
    refine X.lk ?_
    refine X.lk ?_
    refine X.lk ?_
    refine X.idxT (fun h2 => ?_)
    refine X.lk ?_
    refine X.alloc 3 ?_
    refine X.st ?_
    refine X.nil ?_
    refine ES.seq ?_
    refine VS.drawn ?_
    refine X.lk ?_
    refine X.lk ?_
    refine X.lk ?_
    refine X.lk ?_
    refine X.call true [] [] (r20_dead_ok f1 l1 k1) (fun x1 => ?_)
    refine X.lk ?_
    refine X.lk ?_
    refine X.bif (b := (!x1)) (fun h3 => ?_) (fun h3 => ?_)
    · refine X.gY h3 ?_
      refine X.lk ?_
      refine X.gY h3 ?_
      refine X.lk ?_
      refine X.gY h3 ?_
      refine X.lk ?_
      refine X.gY h3 ?_
      refine X.lk ?_
      refine X.bif (b := (decide (((atD f1.Code k1).Op) = 17))) (fun h4 => ?_) (fun h4 => ?_)
      · refine X.gY h4 ?_
        refine X.lk ?_
        refine X.gY h4 ?_
        refine X.lk ?_
        refine X.gY h4 ?_
        refine X.lk ?_
        refine X.gY h4 ?_
        refine X.idxT (fun h5 => ?_)
        refine X.gY h4 ?_
        refine X.lk ?_
        refine X.gY h4 ?_
        refine X.lk ?_
        refine X.gY h4 ?_
        refine X.lk ?_
        refine X.gY h4 ?_
        refine X.lk ?_
        refine X.gY h4 ?_
        refine X.idxT (fun h6 => ?_)
        refine X.gY h4 ?_
        refine X.lk ?_
        refine X.gY h4 ?_
        refine X.lk ?_
        refine X.gY h3 ?_
        refine X.pT h4 ?_
        refine X.gY h3 ?_
        refine X.lk ?_
        refine X.pT h3 ?_
        refine X.bs 4 ([(!(decide ((atD to1 ((atD f1.Code k1).A)) = (atD to1 ((atD f1.Code k1).B)))))] : List Bool) oRow ?_
        refine X.appMM 5 (l := out1) (l' := ([(!(decide ((atD to1 ((atD f1.Code k1).A)) = (atD to1 ((atD f1.Code k1).B)))))] : List Bool)) (fun h7 => ?_)
        refine X.lk ?_
        refine X.nilD ?_ (by kernel_rfl)
        refine ES.blkN ?_
        refine ES.seq ?_
        refine VS.region ?_
        refine X.lk ?_
        refine X.ck fun h8 => ?_
        refine X.lk ?_
        refine X.nil ?_
        exact ES.go ih_again1 ((k1 + 1), (out1 ++ ([(!(decide ((atD to1 ((atD f1.Code k1).A)) = (atD to1 ((atD f1.Code k1).B)))))] : List Bool))) ((St.le_mvB _ 5 2 rfl rfl rfl rfl).trans (St.le_sub ⟨rfl, rfl, rfl, rfl, rfl, trivial⟩ ⟨rfl, rfl, rfl, trivial⟩ rfl))
      · refine X.gN h4 ?_
        refine X.gN h4 ?_
        refine X.gN h4 ?_
        refine X.gN h4 ?_
        refine X.gN h4 ?_
        refine X.gN h4 ?_
        refine X.gN h4 ?_
        refine X.gN h4 ?_
        refine X.gN h4 ?_
        refine X.gN h4 ?_
        refine X.gN h4 ?_
        refine X.gY h3 ?_
        refine X.pF h4 ?_
        refine X.gY h3 ?_
        refine X.lk ?_
        refine X.pT h3 ?_
        refine X.bs 4 ([(!false)] : List Bool) oRow ?_
        refine X.appMM 5 (l := out1) (l' := ([(!false)] : List Bool)) (fun h9 => ?_)
        refine X.lk ?_
        refine X.nilD ?_ (by kernel_rfl)
        refine ES.blkN ?_
        refine ES.seq ?_
        refine VS.region ?_
        refine X.lk ?_
        refine X.ck fun h10 => ?_
        refine X.lk ?_
        refine X.nil ?_
        exact ES.go ih_again1 ((k1 + 1), (out1 ++ ([(!false)] : List Bool))) ((St.le_mvB _ 5 2 rfl rfl rfl rfl).trans (St.le_sub ⟨rfl, rfl, rfl, rfl, rfl, trivial⟩ ⟨rfl, rfl, rfl, trivial⟩ rfl))
    · refine X.gN h3 ?_
      refine X.gN h3 ?_
      refine X.gN h3 ?_
      refine X.gN h3 ?_
      refine X.gU ?_
      refine X.gU ?_
      refine X.gU ?_
      refine X.gU ?_
      refine X.gU ?_
      refine X.gU ?_
      refine X.gU ?_
      refine X.gU ?_
      refine X.gU ?_
      refine X.gU ?_
      refine X.gU ?_
      refine X.gN h3 ?_
      refine X.gN h3 ?_
      refine X.pF h3 ?_
      refine X.bs 4 ([false] : List Bool) oRow ?_
      refine X.appMM 5 (l := out1) (l' := ([false] : List Bool)) (fun h11 => ?_)
      refine X.lk ?_
      refine X.nilD ?_ (by kernel_rfl)
      refine ES.blkN ?_
      refine ES.seq ?_
      refine VS.region ?_
      refine X.lk ?_
      refine X.ck fun h12 => ?_
      refine X.lk ?_
      refine X.nil ?_
      exact ES.go ih_again1 ((k1 + 1), (out1 ++ ([false] : List Bool))) ((St.le_mvB _ 5 2 rfl rfl rfl rfl).trans (St.le_sub ⟨rfl, rfl, rfl, rfl, rfl, trivial⟩ ⟨rfl, rfl, rfl, trivial⟩ rfl))
  · refine VS.exit ?_
    refine ES.thnE ?_
    refine ES.thnE ?_
    refine ES.blkE ?_
    refine ES.seq ?_
    refine VS.seq ?_
    refine VS.region ?_
    refine X.lk ?_
    refine X.lk ?_
    refine X.nil ?_
    refine ES.seq ?_
    refine VS.ret ?_
    refine ES.ret ?_
    exact Ret.weak (St.le_tree _ 6 2 rfl rfl) (Ret.clo [.c (.v (.tree (out1.map oRow)))] ⟨rfl, trivial⟩ trivial)
set_option maxHeartbeats 4000000 in
theorem r19_Valid_ok (f1 : AFunc) (to1 : List Int) : ∀ r : Bool, r19_Valid f1 to1 r → FCalls Try.prog 19 [] [.agg ((row_AFunc f1).map .v), .c (.v (.tree (to1.map iRow)))] (.w (.c (.v (.bool r)))) [] [] := by
  refine fnS 69 ?_
  unfold r19_Valid
  refine VS.seq ?_
  refine VS.region ?_
  refine X.box 0 ?_
  refine X.lk ?_
  refine X.nil ?_
  refine ES.seq ?_
  refine VS.seq ?_
  refine VS.seq ?_
  refine VS.region ?_
  refine X.lk ?_
  refine X.lenT ?_
  refine X.lk ?_
  refine X.lk ?_
  refine X.lenT ?_
  refine X.lk ?_
  refine X.nil ?_
  refine ES.seq ?_
  refine VS.cond (fun h1 => ?_) (fun h1 => ?_)
  · refine VS.seq ?_
    refine VS.region ?_
    refine X.lk ?_
    refine X.nil ?_
    refine ES.seq ?_
    refine VS.ret ?_
    refine ES.thnR ?_
    refine ES.ret ?_
    exact Ret.clo [.c (.v (.bool false))] ⟨rfl, trivial⟩ trivial
  · refine VS.skip ?_
    refine ES.seq ?_
    refine VS.seq ?_
    refine VS.seq ?_
    refine VS.region ?_
    refine X.lk ?_
    refine X.nil ?_
    refine ES.seq ?_
    refine VS.block ?_
    refine VS.loop (fun (s1 : Int) => (⟨[(1, .w (.c (.v (.tree (to1.map iRow))))), (2, .w (.c (.ptr 0 0 0))), (5, .w (.c (.v (.int .i64 s1))))], [some (.bx 35 ((row_AFunc f1).map .v))]⟩ : St)) (j0 := 0) (St.le_sub ⟨rfl, rfl, rfl, trivial⟩ ⟨rfl, trivial⟩ rfl) ?_
    rintro n1 again1 ih_again1 s1
    refine VS.seq ?_
    refine VS.seq ?_
    refine VS.region ?_
    refine X.lk ?_
    refine X.lk ?_
    refine X.lenT ?_
    refine X.lk ?_
    refine X.nil ?_
    refine ES.seq ?_
    refine VS.cond (fun h2 => ?_) (fun h2 => ?_)
    · refine VS.skip ?_
      refine ES.seq ?_
      refine VS.seq ?_
      refine VS.block ?_
      refine VS.seq ?_
      refine VS.region ?_
      refine X.lk ?_
      refine X.lk ?_
      refine X.idxT (fun h3 => ?_)
      refine X.lk ?_
      refine X.lk ?_
      refine X.lk ?_
      refine X.bif (b := (decide ((atD to1 s1) < 0))) (fun h4 => ?_) (fun h4 => ?_)
      · refine X.gN h4 ?_
        refine X.gN h4 ?_
        refine X.gN h4 ?_
        refine X.gN h4 ?_
        refine X.gN h4 ?_
        refine X.gN h4 ?_
        refine X.gN h4 ?_
        refine X.pT h4 ?_
        refine X.nil ?_
        refine ES.seq ?_
        refine VS.condT rfl ?_
        refine VS.seq ?_
        refine VS.region ?_
        refine X.lk ?_
        refine X.nil ?_
        refine ES.seq ?_
        refine VS.ret ?_
        refine ES.blkR ?_
        refine ES.thnR ?_
        refine ES.thnR ?_
        refine ES.blkR ?_
        refine ES.thnR ?_
        refine ES.ret ?_
        exact Ret.clo [.c (.v (.bool false))] ⟨rfl, trivial⟩ trivial
      · refine X.gY h4 ?_
        refine X.lk ?_
        refine X.gY h4 ?_
        refine X.lk ?_
        refine X.gY h4 ?_
        refine X.idxT (fun h5 => ?_)
        refine X.gY h4 ?_
        refine X.lk ?_
        refine X.gY h4 ?_
        refine X.lk ?_
        refine X.gY h4 ?_
        refine X.lenT ?_
        refine X.gY h4 ?_
        refine X.lk ?_
        refine X.pF h4 ?_
        refine X.nil ?_
        refine ES.seq ?_
        refine VS.cond (fun h6 => ?_) (fun h6 => ?_)
        · refine VS.seq ?_
          refine VS.region ?_
          refine X.lk ?_
          refine X.nil ?_
          refine ES.seq ?_
          refine VS.ret ?_
          refine ES.blkR ?_
          refine ES.thnR ?_
          refine ES.thnR ?_
          refine ES.blkR ?_
          refine ES.thnR ?_
          refine ES.ret ?_
          exact Ret.clo [.c (.v (.bool false))] ⟨rfl, trivial⟩ trivial
        · refine VS.skip ?_
          refine ES.blkN ?_
          refine ES.seq ?_
          refine VS.region ?_
          refine X.lk ?_
          refine X.ck fun h7 => ?_
          refine X.lk ?_
          refine X.nil ?_
          exact ES.go ih_again1 (s1 + 1) (St.le_sub ⟨rfl, rfl, rfl, trivial⟩ ⟨rfl, trivial⟩ rfl)
    · refine VS.exit ?_
      refine ES.thnE ?_
      refine ES.thnE ?_
      refine ES.blkE ?_
      refine ES.seq ?_
      refine VS.seq ?_
      refine VS.seq ?_
      refine VS.region ?_
      refine X.lk ?_
      refine X.nil ?_
      refine ES.seq ?_
      refine VS.block ?_
      refine VS.loop (fun (s2 : Int) => (⟨[(1, .w (.c (.v (.tree (to1.map iRow))))), (2, .w (.c (.ptr 0 0 0))), (6, .w (.c (.v (.int .i64 s2))))], [some (.bx 35 ((row_AFunc f1).map .v))]⟩ : St)) (j0 := 0) (St.le_sub ⟨rfl, rfl, rfl, trivial⟩ ⟨rfl, trivial⟩ rfl) ?_
      rintro n2 again2 ih_again2 s2
      refine VS.seq ?_
      refine VS.seq ?_
      refine VS.region ?_
      refine X.lk ?_
      refine X.lk ?_
      refine X.lenT ?_
      refine X.lk ?_
      refine X.nil ?_
      refine ES.seq ?_
      refine VS.cond (fun h8 => ?_) (fun h8 => ?_)
      · refine VS.skip ?_
        refine ES.seq ?_
        refine VS.seq ?_
        refine VS.block ?_
        refine VS.seq ?_
        refine VS.drawn ?_
        refine X.lk ?_
        refine X.lk ?_
        refine X.lk ?_
        refine X.lk ?_
        refine X.idxT (fun h9 => ?_)
        refine X.lk ?_
        refine X.idxT (fun h10 => ?_)
        refine X.lk ?_
        refine X.lk ?_
        refine X.lk ?_
        refine X.lk ?_
        refine X.lk ?_
        refine X.idxT (fun h11 => ?_)
        refine X.lk ?_
        refine X.lk ?_
        refine X.lk ?_
        refine X.lk ?_
        refine X.bif (b := (!decide (((atD f1.Slots (atD to1 s2)).Size) = ((atD f1.Slots s2).Size)))) (fun h12 => ?_) (fun h12 => ?_)
        · refine X.gN h12 ?_
          refine X.gN h12 ?_
          refine X.gN h12 ?_
          refine X.gN h12 ?_
          refine X.gN h12 ?_
          refine X.gN h12 ?_
          refine X.gN h12 ?_
          refine X.gN h12 ?_
          refine X.gN h12 ?_
          refine X.gN h12 ?_
          refine X.gN h12 ?_
          refine X.gN h12 ?_
          refine X.pT h12 ?_
          refine X.nilD ?_ (by kernel_rfl)
          refine ES.seq ?_
          refine VS.condT rfl ?_
          refine VS.seq ?_
          refine VS.region ?_
          refine X.lk ?_
          refine X.nil ?_
          refine ES.seq ?_
          refine VS.ret ?_
          refine ES.blkR ?_
          refine ES.thnR ?_
          refine ES.thnR ?_
          refine ES.blkR ?_
          refine ES.thnR ?_
          refine ES.ret ?_
          exact Ret.clo [.c (.v (.bool false))] ⟨rfl, trivial⟩ trivial
        · refine X.gY h12 ?_
          refine X.lk ?_
          refine X.gY h12 ?_
          refine X.lk ?_
          refine X.gY h12 ?_
          refine X.lk ?_
          refine X.gY h12 ?_
          refine X.idxT (fun h13 => ?_)
          refine X.gY h12 ?_
          refine X.lk ?_
          refine X.gY h12 ?_
          refine X.idxT (fun h14 => ?_)
          refine X.gY h12 ?_
          refine X.lk ?_
          refine X.gY h12 ?_
          refine X.lk ?_
          refine X.gY h12 ?_
          refine X.lk ?_
          refine X.gY h12 ?_
          refine X.idxT (fun h15 => ?_)
          refine X.gY h12 ?_
          refine X.lk ?_
          refine X.gY h12 ?_
          refine X.lk ?_
          refine X.pF h12 ?_
          refine X.nilD ?_ (by kernel_rfl)
          refine ES.seq ?_
          refine VS.cond (fun h16 => ?_) (fun h16 => ?_)
          · refine VS.seq ?_
            refine VS.region ?_
            refine X.lk ?_
            refine X.nil ?_
            refine ES.seq ?_
            refine VS.ret ?_
            refine ES.blkR ?_
            refine ES.thnR ?_
            refine ES.thnR ?_
            refine ES.blkR ?_
            refine ES.thnR ?_
            refine ES.ret ?_
            exact Ret.clo [.c (.v (.bool false))] ⟨rfl, trivial⟩ trivial
          · refine VS.skip ?_
            refine ES.blkN ?_
            refine ES.seq ?_
            refine VS.region ?_
            refine X.lk ?_
            refine X.ck fun h17 => ?_
            refine X.lk ?_
            refine X.nil ?_
            exact ES.go ih_again2 (s2 + 1) (St.le_sub ⟨rfl, rfl, rfl, trivial⟩ ⟨rfl, trivial⟩ rfl)
      · refine VS.exit ?_
        refine ES.thnE ?_
        refine ES.thnE ?_
        refine ES.blkE ?_
        refine ES.seq ?_
        refine VS.seq ?_
        refine VS.region ?_
        refine X.lk ?_
        refine X.nil ?_
        refine ES.seq ?_
        refine VS.ret ?_
        refine ES.ret ?_
        exact Ret.clo [.c (.v (.bool true))] ⟨rfl, trivial⟩ trivial
set_option maxHeartbeats 4000000 in
theorem r21_Check_ok (f1 : AFunc) (r1 : ARename) : ∀ r : Int, r21_Check f1 r1 r → FCalls Try.prog 115 [] [.agg ((row_AFunc f1).map .v), .agg ((row_ARename r1).map .v)] (.w (.c (.v (.int .i64 r)))) [] [] := by
  refine fnS 42 ?_
  unfold r21_Check
  refine VS.seq ?_
  refine VS.region ?_
  refine X.box 0 ?_
  refine X.box 1 ?_
  refine X.lk ?_
  refine X.nil ?_
  refine ES.seq ?_
  refine VS.seq ?_
  refine VS.seq ?_
  refine VS.region ?_
  refine X.lk ?_
  refine X.lk ?_
  refine X.lk ?_
  refine X.call true [] [] (r19_Valid_ok f1 r1.To) (fun x1 => ?_)
  refine X.lk ?_
  refine X.lk ?_
  refine X.bif (b := (!x1)) (fun h1 => ?_) (fun h1 => ?_)
  · refine X.gN h1 ?_
    refine X.gN h1 ?_
    refine X.gN h1 ?_
    refine X.gN h1 ?_
    refine X.gN h1 ?_
    refine X.gN h1 ?_
    refine X.gN h1 ?_
    refine X.pT h1 ?_
    refine X.nil ?_
    refine ES.seq ?_
    refine VS.condT rfl ?_
    refine VS.seq ?_
    refine VS.region ?_
    refine X.lk ?_
    refine X.nil ?_
    refine ES.seq ?_
    refine VS.ret ?_
    refine ES.thnR ?_
    refine ES.ret ?_
    exact Ret.clo [.c (.v (.int .i64 12))] ⟨rfl, trivial⟩ trivial
  · refine X.gY h1 ?_
    refine X.lk ?_
    refine X.gY h1 ?_
    refine X.lk ?_
    refine X.gY h1 ?_
    refine X.lenT ?_
    refine X.gY h1 ?_
    refine X.lk ?_
    refine X.gY h1 ?_
    refine X.lk ?_
    refine X.gY h1 ?_
    refine X.lenT ?_
    refine X.gY h1 ?_
    refine X.lk ?_
    refine X.pF h1 ?_
    refine X.nil ?_
    refine ES.seq ?_
    refine VS.cond (fun h2 => ?_) (fun h2 => ?_)
    · refine VS.seq ?_
      refine VS.region ?_
      refine X.lk ?_
      refine X.nil ?_
      refine ES.seq ?_
      refine VS.ret ?_
      refine ES.thnR ?_
      refine ES.ret ?_
      exact Ret.clo [.c (.v (.int .i64 12))] ⟨rfl, trivial⟩ trivial
    · refine VS.skip ?_
      refine ES.seq ?_
      refine VS.seq ?_
      refine VS.seq ?_
      refine VS.region ?_
      refine X.lk ?_
      refine X.nil ?_
      refine ES.seq ?_
      refine VS.block ?_
      refine VS.loop (fun (k1 : Int) => (⟨[(2, .w (.c (.ptr 0 0 0))), (3, .w (.c (.ptr 1 0 0))), (5, .w (.c (.v (.int .i64 k1))))], [some (.bx 35 ((row_AFunc f1).map .v)), some (.bx 38 ((row_ARename r1).map .v))]⟩ : St)) (j0 := 0) (St.le_sub ⟨rfl, rfl, rfl, trivial⟩ ⟨rfl, rfl, trivial⟩ rfl) ?_
      rintro n1 again1 ih_again1 k1
      refine VS.seq ?_
      refine VS.seq ?_
      refine VS.region ?_
      refine X.lk ?_
      refine X.lk ?_
      refine X.lk ?_
      refine X.lenT ?_
      refine X.lk ?_
      refine X.nil ?_
      refine ES.seq ?_
      refine VS.cond (fun h3 => ?_) (fun h3 => ?_)
      · refine VS.skip ?_
        refine ES.seq ?_
        refine VS.seq ?_
        refine VS.block ?_
        refine VS.seq ?_
        refine VS.region ?_
        refine X.lk ?_
        refine X.lk ?_
        refine X.lk ?_
        refine X.idxT (fun h4 => ?_)
        refine X.lk ?_
        refine X.lk ?_
        refine X.lk ?_
        refine X.bif (b := (!(atD r1.Keep k1))) (fun h5 => ?_) (fun h5 => ?_)
        · refine X.gY h5 ?_
          refine X.lk ?_
          refine X.gY h5 ?_
          refine X.lk ?_
          refine X.gY h5 ?_
          refine X.lk ?_
          refine X.gY h5 ?_
          refine X.idxT (fun h6 => ?_)
          refine X.gY h5 ?_
          refine X.lk ?_
          refine X.gY h5 ?_
          refine X.call true [] [] (r15_Removable_ok (atD f1.Code k1)) (fun x2 => ?_)
          refine X.gY h5 ?_
          refine X.lk ?_
          refine X.pT h5 ?_
          refine X.nil ?_
          refine ES.seq ?_
          refine VS.cond (fun h7 => ?_) (fun h7 => ?_)
          · refine VS.seq ?_
            refine VS.region ?_
            refine X.lk ?_
            refine X.nil ?_
            refine ES.seq ?_
            refine VS.ret ?_
            refine ES.blkR ?_
            refine ES.thnR ?_
            refine ES.thnR ?_
            refine ES.blkR ?_
            refine ES.thnR ?_
            refine ES.ret ?_
            exact Ret.clo [.c (.v (.int .i64 12))] ⟨rfl, trivial⟩ trivial
          · refine VS.skip ?_
            refine ES.blkN ?_
            refine ES.seq ?_
            refine VS.region ?_
            refine X.lk ?_
            refine X.ck fun h8 => ?_
            refine X.lk ?_
            refine X.nil ?_
            exact ES.go ih_again1 (k1 + 1) (St.le_sub ⟨rfl, rfl, rfl, trivial⟩ ⟨rfl, rfl, trivial⟩ rfl)
        · refine X.gN h5 ?_
          refine X.gN h5 ?_
          refine X.gN h5 ?_
          refine X.gN h5 ?_
          refine X.gN h5 ?_
          refine X.gN h5 ?_
          refine X.gN h5 ?_
          refine X.pF h5 ?_
          refine X.nil ?_
          refine ES.seq ?_
          refine VS.condF rfl ?_
          refine VS.skip ?_
          refine ES.blkN ?_
          refine ES.seq ?_
          refine VS.region ?_
          refine X.lk ?_
          refine X.ck fun h9 => ?_
          refine X.lk ?_
          refine X.nil ?_
          exact ES.go ih_again1 (k1 + 1) (St.le_sub ⟨rfl, rfl, rfl, trivial⟩ ⟨rfl, rfl, trivial⟩ rfl)
      · refine VS.exit ?_
        refine ES.thnE ?_
        refine ES.thnE ?_
        refine ES.blkE ?_
        refine ES.seq ?_
        refine VS.seq ?_
        refine VS.region ?_
        refine X.lk ?_
        refine X.nil ?_
        refine ES.seq ?_
        refine VS.ret ?_
        refine ES.ret ?_
        exact Ret.clo [.c (.v (.int .i64 0))] ⟨rfl, trivial⟩ trivial
set_option maxHeartbeats 4000000 in
theorem r15_renamed_ok (s1 : Int) (to1 : List Int) : ∀ r : Int, r15_renamed s1 to1 r → FCalls Try.prog 145 [] [.c (.v (.int .i64 s1)), .c (.v (.tree (to1.map iRow)))] (.w (.c (.v (.int .i64 r)))) [] [] := by
  refine fnS 18 ?_
  unfold r15_renamed
  refine VS.seq ?_
  refine VS.region ?_
  refine X.lk ?_
  refine X.nil ?_
  refine ES.seq ?_
  refine VS.seq ?_
  refine VS.seq ?_
  refine VS.region ?_
  refine X.lk ?_
  refine X.lk ?_
  refine X.lk ?_
  refine X.bif (b := (decide (s1 < 0))) (fun h1 => ?_) (fun h1 => ?_)
  · refine X.gN h1 ?_
    refine X.gN h1 ?_
    refine X.gN h1 ?_
    refine X.gN h1 ?_
    refine X.pT h1 ?_
    refine X.nil ?_
    refine ES.seq ?_
    refine VS.condT rfl ?_
    refine VS.seq ?_
    refine VS.region ?_
    refine X.lk ?_
    refine X.lk ?_
    refine X.nil ?_
    refine ES.seq ?_
    refine VS.ret ?_
    refine ES.thnR ?_
    refine ES.ret ?_
    exact Ret.clo [.c (.v (.int .i64 s1))] ⟨rfl, trivial⟩ trivial
  · refine X.gY h1 ?_
    refine X.lk ?_
    refine X.gY h1 ?_
    refine X.lk ?_
    refine X.gY h1 ?_
    refine X.lenT ?_
    refine X.gY h1 ?_
    refine X.lk ?_
    refine X.pF h1 ?_
    refine X.nil ?_
    refine ES.seq ?_
    refine VS.cond (fun h2 => ?_) (fun h2 => ?_)
    · refine VS.seq ?_
      refine VS.region ?_
      refine X.lk ?_
      refine X.lk ?_
      refine X.nil ?_
      refine ES.seq ?_
      refine VS.ret ?_
      refine ES.thnR ?_
      refine ES.ret ?_
      exact Ret.clo [.c (.v (.int .i64 s1))] ⟨rfl, trivial⟩ trivial
    · refine VS.skip ?_
      refine ES.seq ?_
      refine VS.seq ?_
      refine VS.region ?_
      refine X.lk ?_
      refine X.lk ?_
      refine X.idxT (fun h3 => ?_)
      refine X.lk ?_
      refine X.lk ?_
      refine X.nil ?_
      refine ES.seq ?_
      refine VS.ret ?_
      refine ES.ret ?_
      exact Ret.clo [.c (.v (.int .i64 (atD to1 s1)))] ⟨rfl, trivial⟩ trivial
set_option maxHeartbeats 4000000 in
theorem r15_Renamed_ok (x1 : AInstr) (to1 : List Int) : ∀ r : AInstr, r15_Renamed x1 to1 r → FCalls Try.prog 119 [] [.agg ((row_AInstr x1).map .v), .c (.v (.tree (to1.map iRow)))] (.w (.agg ((row_AInstr r).map .v))) [] [] := by
  refine fnS 34 ?_
  unfold r15_Renamed
  refine VS.seq ?_
  refine VS.region ?_
  refine X.box 0 ?_
  refine X.alloc 1 ?_
  refine X.nil ?_
  refine ES.seq ?_
  refine VS.seq ?_
  refine VS.seq ?_
  refine VS.region ?_
  refine X.lk ?_
  refine X.lk ?_
  refine X.nil ?_
  refine ES.seq ?_
  refine VS.block ?_
  refine VS.seq ?_
  refine VS.region ?_
  refine X.lk ?_
  refine X.lk ?_
  refine X.nil ?_
  refine ES.seq ?_
  refine VS.cond (fun h1 => ?_) (fun h1 => ?_)
  · refine VS.region ?_
    refine X.lk ?_
    refine X.lk ?_
    refine X.lk ?_
    refine X.call true [] [] (r15_renamed_ok x1.B to1) (fun x2 => ?_)
    refine X.lk ?_
    refine X.st ?_
    refine X.nil ?_
    refine ES.blkN ?_
    refine ES.seq ?_
    refine VS.seq ?_
    refine VS.region ?_
    refine X.lk ?_
    refine X.st ?_
    refine X.nil ?_
    refine ES.seq ?_
    refine VS.ret ?_
    refine ES.ret ?_
    exact Ret.clo [.agg ((row_AInstr (⟨x1.Op, x1.A, x2, x1.C, x1.Imm⟩ : AInstr)).map .v)] ⟨⟨_, _, _, _, _, _, rfl, rfl, fits rfl, rfl⟩, trivial⟩ trivial
  · refine VS.seq ?_
    refine VS.region ?_
    refine X.lk ?_
    refine X.lk ?_
    refine X.nil ?_
    refine ES.seq ?_
    refine VS.cond (fun h2 => ?_) (fun h2 => ?_)
    · refine VS.region ?_
      refine X.lk ?_
      refine X.lk ?_
      refine X.lk ?_
      refine X.call true [] [] (r15_renamed_ok x1.A to1) (fun x3 => ?_)
      refine X.lk ?_
      refine X.st ?_
      refine X.nil ?_
      refine ES.blkN ?_
      refine ES.seq ?_
      refine VS.seq ?_
      refine VS.region ?_
      refine X.lk ?_
      refine X.st ?_
      refine X.nil ?_
      refine ES.seq ?_
      refine VS.ret ?_
      refine ES.ret ?_
      exact Ret.clo [.agg ((row_AInstr (⟨x1.Op, x3, x1.B, x1.C, x1.Imm⟩ : AInstr)).map .v)] ⟨⟨_, _, _, _, _, _, rfl, rfl, fits rfl, rfl⟩, trivial⟩ trivial
    · refine VS.seq ?_
      refine VS.region ?_
      refine X.lk ?_
      refine X.lk ?_
      refine X.nil ?_
      refine ES.seq ?_
      refine VS.cond (fun h3 => ?_) (fun h3 => ?_)
      · refine VS.drawn ?_
        refine X.lk ?_
        refine X.lk ?_
        refine X.lk ?_
        refine X.call true [] [] (r15_renamed_ok x1.A to1) (fun x4 => ?_)
        refine X.lk ?_
        refine X.lk ?_
        refine X.lk ?_
        refine X.call true [] [] (r15_renamed_ok x1.B to1) (fun x5 => ?_)
        refine X.lk ?_
        refine X.st ?_
        refine X.lk ?_
        refine X.st ?_
        refine X.nilD ?_ (by kernel_rfl)
        refine ES.blkN ?_
        refine ES.seq ?_
        refine VS.seq ?_
        refine VS.region ?_
        refine X.lk ?_
        refine X.st ?_
        refine X.nil ?_
        refine ES.seq ?_
        refine VS.ret ?_
        refine ES.ret ?_
        exact Ret.clo [.agg ((row_AInstr (⟨x1.Op, x4, x5, x1.C, x1.Imm⟩ : AInstr)).map .v)] ⟨⟨_, _, _, _, _, _, rfl, rfl, fits rfl, rfl⟩, trivial⟩ trivial
      · refine VS.skip ?_
        refine ES.blkN ?_
        refine ES.seq ?_
        refine VS.seq ?_
        refine VS.region ?_
        refine X.lk ?_
        refine X.st ?_
        refine X.nil ?_
        refine ES.seq ?_
        refine VS.ret ?_
        refine ES.ret ?_
        exact Ret.clo [.agg ((row_AInstr x1).map .v)] ⟨⟨_, _, _, _, _, _, rfl, rfl, fits rfl, rfl⟩, trivial⟩ trivial
set_option maxHeartbeats 4000000 in
theorem r21_Used_ok (f1 : AFunc) (r1 : ARename) : ∀ r : List Int, r21_Used f1 r1 r → FCalls Try.prog 116 [] [.agg ((row_AFunc f1).map .v), .agg ((row_ARename r1).map .v)] (.w (.c (.v (.tree (r.map iRow))))) [] [] := by
  refine fnS 52 ?_
  unfold r21_Used
  refine VS.seq ?_
  refine VS.region ?_
  refine X.box 0 ?_
  refine X.box 1 ?_
  refine X.lk ?_
  refine X.nil ?_
  refine ES.seq ?_
  refine VS.seq ?_
  refine VS.region ?_
  refine X.lk ?_
  refine X.nil ?_
  refine ES.seq ?_
  refine VS.seq ?_
  refine VS.seq ?_
  refine VS.region ?_
  refine X.lk ?_
  refine X.nil ?_
  refine ES.seq ?_
  refine VS.block ?_
  refine VS.loop (fun jj : List Int × Int => (⟨[(2, .w (.c (.ptr 0 0 0))), (3, .w (.c (.ptr 1 0 0))), (5, .w (.c (.v (.tree (jj.1.map iRow))))), (6, .w (.c (.v (.int .i64 jj.2))))], [some (.bx 35 ((row_AFunc f1).map .v)), some (.bx 38 ((row_ARename r1).map .v))]⟩ : St)) (j0 := (([] : List Int), 0)) ((St.le_nil _ 5 rfl).trans (St.le_sub ⟨rfl, rfl, rfl, rfl, trivial⟩ ⟨rfl, rfl, trivial⟩ rfl)) ?_
  rintro n1 again1 ih_again1 ⟨out1, k1⟩
  refine VS.seq ?_
  refine VS.seq ?_
  refine VS.region ?_
  refine X.lk ?_
  refine X.lk ?_
  refine X.lk ?_
  refine X.lenT ?_
  refine X.lk ?_
  refine X.lk ?_
  refine X.bif (b := (decide (k1 < (f1.Code.length : Int)))) (fun h1 => ?_) (fun h1 => ?_)
  · refine X.gY h1 ?_
    refine X.lk ?_
    refine X.gY h1 ?_
    refine X.lk ?_
    refine X.gY h1 ?_
    refine X.lk ?_
    refine X.gY h1 ?_
    refine X.lenT ?_
    refine X.gY h1 ?_
    refine X.lk ?_
    refine X.pT h1 ?_
    refine X.nil ?_
    refine ES.seq ?_
    refine VS.cond (fun h2 => ?_) (fun h2 => ?_)
    · refine VS.skip ?_
      refine ES.seq ?_
      refine VS.seq ?_
      refine VS.block ?_
      refine VS.seq ?_
      refine VS.seq ?_
      refine VS.region ?_
      refine X.lk ?_
      refine X.lk ?_
      refine X.lk ?_
      refine X.idxT (fun h3 => ?_)
      refine X.lk ?_
      refine X.lk ?_
      refine X.nil ?_
      refine ES.seq ?_
      refine VS.cond (fun h4 => ?_) (fun h4 => ?_)
      · refine VS.exit ?_
        refine ES.thnE ?_
        refine ES.blkE ?_
        refine ES.seq ?_
        refine VS.region ?_
        refine X.lk ?_
        refine X.ck fun h5 => ?_
        refine X.lk ?_
        refine X.nil ?_
        exact ES.go ih_again1 (out1, (k1 + 1)) (St.le_sub ⟨rfl, rfl, rfl, rfl, trivial⟩ ⟨rfl, rfl, trivial⟩ rfl)
      · refine VS.skip ?_
        refine ES.seq ?_
        refine VS.seq ?_
        refine VS.drawn ?_
        refine X.lk ?_
        refine X.lk ?_
        refine X.lk ?_
        refine X.idxT (fun h6 => ?_)
        refine X.lk ?_
        refine X.lk ?_
        refine X.lk ?_
        refine X.call true [] [] (r15_Renamed_ok (atD f1.Code k1) r1.To) (fun x1 => ?_)
        refine X.alloc 2 ?_
        refine X.st ?_
        refine X.nilD ?_ (by kernel_rfl)
        refine ES.seq ?_
        refine VS.seq ?_
        refine VS.region ?_
        refine X.lk ?_
        refine X.lk ?_
        refine X.call true [] [] (r15_Uses_ok x1) (fun x2 => ?_)
        refine X.call true [] [] (r04_Union_ok out1 x2) (fun x3 => ?_)
        refine X.lk ?_
        refine X.nil ?_
        refine ES.seq ?_
        refine VS.seq ?_
        refine VS.region ?_
        refine X.lk ?_
        refine X.call true [] [] (r15_Defines_ok x1) (fun x4 => ?_)
        refine X.lk ?_
        refine X.lk ?_
        refine X.lk ?_
        refine X.lk ?_
        refine X.lk ?_
        refine X.nil ?_
        refine ES.seq ?_
        refine VS.weak (s' := (⟨[(2, .w (.c (.ptr 0 0 0))), (3, .w (.c (.ptr 1 0 0))), (5, .w (.c (.v (.tree (x3.map iRow))))), (6, .w (.c (.v (.int .i64 k1)))), (8, .w (.c (.v (.int .i64 x4.1)))), (9, .w (.c (.v (.bool x4.2)))), (16, .w (.c (.v (.int .i64 k1)))), (17, .w (.c (.ptr 1 0 1))), (18, .w (.c (.v (.tree (r1.Keep.map oRow))))), (19, .w (.c (.v (.int .i64 (r1.Keep.length : Int))))), (20, .w (.c (.v (.bool (decide (k1 < (r1.Keep.length : Int)))))))], [some (.bx 35 ((row_AFunc f1).map .v)), some (.bx 38 ((row_ARename r1).map .v)), some (.bx 66 ((row_AInstr x1).map .v))]⟩ : St)) (St.le_sub ⟨rfl, rfl, rfl, rfl, rfl, rfl, rfl, rfl, rfl, rfl, rfl, trivial⟩ ⟨rfl, rfl, rfl, trivial⟩ rfl) ?_
        refine VS.seq ?_
        refine VS.region ?_
        refine X.lk ?_
        refine X.nil ?_
        refine ES.seq ?_
        refine VS.cond (fun h7 => ?_) (fun h7 => ?_)
        · refine VS.region ?_
          refine X.lk ?_
          refine X.lk ?_
          refine X.call true [] [] (r04_Add_ok x3 x4.1) (fun x5 => ?_)
          refine X.lk ?_
          refine X.nil ?_
          refine ES.blkN ?_
          refine ES.seq ?_
          refine VS.region ?_
          refine X.lk ?_
          refine X.ck fun h8 => ?_
          refine X.lk ?_
          refine X.nil ?_
          exact ES.go ih_again1 (x5, (k1 + 1)) (St.le_sub ⟨rfl, rfl, rfl, rfl, trivial⟩ ⟨rfl, rfl, trivial⟩ rfl)
        · refine VS.skip ?_
          refine ES.blkN ?_
          refine ES.seq ?_
          refine VS.region ?_
          refine X.lk ?_
          refine X.ck fun h9 => ?_
          refine X.lk ?_
          refine X.nil ?_
          exact ES.go ih_again1 (x3, (k1 + 1)) (St.le_sub ⟨rfl, rfl, rfl, rfl, trivial⟩ ⟨rfl, rfl, trivial⟩ rfl)
    · refine VS.exit ?_
      refine ES.thnE ?_
      refine ES.thnE ?_
      refine ES.blkE ?_
      refine ES.seq ?_
      refine VS.seq ?_
      refine VS.region ?_
      refine X.lk ?_
      refine X.lk ?_
      refine X.nil ?_
      refine ES.seq ?_
      refine VS.ret ?_
      refine ES.ret ?_
      exact Ret.clo [.c (.v (.tree (out1.map iRow)))] ⟨rfl, trivial⟩ trivial
  · refine X.gN h1 ?_
    refine X.gN h1 ?_
    refine X.gN h1 ?_
    refine X.gN h1 ?_
    refine X.gN h1 ?_
    refine X.pF h1 ?_
    refine X.nil ?_
    refine ES.seq ?_
    refine VS.condF rfl ?_
    refine VS.exit ?_
    refine ES.thnE ?_
    refine ES.thnE ?_
    refine ES.blkE ?_
    refine ES.seq ?_
    refine VS.seq ?_
    refine VS.region ?_
    refine X.lk ?_
    refine X.lk ?_
    refine X.nil ?_
    refine ES.seq ?_
    refine VS.ret ?_
    refine ES.ret ?_
    exact Ret.clo [.c (.v (.tree (out1.map iRow)))] ⟨rfl, trivial⟩ trivial
set_option maxHeartbeats 4000000 in
theorem r21_numbers_ok (r1 : ARename) (used1 : List Int) : ∀ r : List Int, r21_numbers r1 used1 r → FCalls Try.prog 117 [] [.agg ((row_ARename r1).map .v), .c (.v (.tree (used1.map iRow)))] (.w (.c (.v (.tree (r.map iRow))))) [] [] := by
  refine fnS 38 ?_
  unfold r21_numbers
  refine VS.seq ?_
  refine VS.region ?_
  refine X.box 0 ?_
  refine X.lk ?_
  refine X.nil ?_
  refine ES.seq ?_
  refine VS.seq ?_
  refine VS.region ?_
  refine X.lk ?_
  refine X.nil ?_
  refine ES.seq ?_
  refine VS.seq ?_
  refine VS.seq ?_
  refine VS.region ?_
  refine X.lk ?_
  refine X.nil ?_
  refine ES.seq ?_
  refine VS.block ?_
  refine VS.loop (fun jj : Int × List Int => (⟨[(1, .w (.c (.v (.tree (used1.map iRow))))), (2, .w (.c (.ptr 0 0 0))), (5, .w (.c (.mref 1))), (6, .w (.c (.v (.int .i64 jj.1))))], [some (.bx 38 ((row_ARename r1).map .v)), some (.sl 3 1 false (jj.2.map iRow))]⟩ : St)) (j0 := (0, ([] : List Int))) ((St.le_keep _ [1, 2, 5, 6]).trans ((St.le_adopt _ 5 1 3 1 rfl rfl).trans (St.le_sub ⟨rfl, rfl, rfl, rfl, trivial⟩ ⟨rfl, rfl, trivial⟩ rfl))) ?_
  rintro n1 again1 ih_again1 ⟨s1, out1⟩
  refine VS.seq ?_
  refine VS.seq ?_
  refine VS.region ?_
  refine X.lk ?_
  refine X.lk ?_
  refine X.lk ?_
  refine X.lenT ?_
  refine X.lk ?_
  refine X.nil ?_
  refine ES.seq ?_
  refine VS.cond (fun h1 => ?_) (fun h1 => ?_)
  · refine VS.skip ?_
    refine ES.seq ?_
    refine VS.seq ?_
    refine VS.block ?_
    refine VS.seq ?_
    refine VS.region ?_
    refine X.lk ?_
    refine X.nil ?_
    refine ES.seq ?_
    refine VS.seq ?_
    refine VS.seq ?_
    refine VS.region ?_
    refine X.lk ?_
    refine X.nil ?_
    refine ES.seq ?_
    refine VS.block ?_
    refine VS.loop (fun jj : Int × Int => (⟨[(1, .w (.c (.v (.tree (used1.map iRow))))), (2, .w (.c (.ptr 0 0 0))), (5, .w (.c (.mref 1))), (6, .w (.c (.v (.int .i64 s1)))), (7, .w (.c (.v (.int .i64 jj.1)))), (8, .w (.c (.v (.int .i64 jj.2))))], [some (.bx 38 ((row_ARename r1).map .v)), some (.sl 3 1 false (out1.map iRow))]⟩ : St)) (j0 := (0, 0)) (St.le_sub ⟨rfl, rfl, rfl, rfl, rfl, rfl, trivial⟩ ⟨rfl, rfl, trivial⟩ rfl) ?_
    rintro n3 again2 ih_again2 ⟨n2, i1⟩
    refine VS.seq ?_
    refine VS.seq ?_
    refine VS.region ?_
    refine X.lk ?_
    refine X.lk ?_
    refine X.lenT ?_
    refine X.lk ?_
    refine X.nil ?_
    refine ES.seq ?_
    refine VS.cond (fun h2 => ?_) (fun h2 => ?_)
    · refine VS.skip ?_
      refine ES.seq ?_
      refine VS.seq ?_
      refine VS.block ?_
      refine VS.seq ?_
      refine VS.drawn ?_
      refine X.lk ?_
      refine X.lk ?_
      refine X.idxT (fun h3 => ?_)
      refine X.lk ?_
      refine X.lk ?_
      refine X.lk ?_
      refine X.lk ?_
      refine X.idxT (fun h4 => ?_)
      refine X.lk ?_
      refine X.lk ?_
      refine X.nilD ?_ (by kernel_rfl)
      refine ES.seq ?_
      refine VS.cond (fun h5 => ?_) (fun h5 => ?_)
      · refine VS.region ?_
        refine X.lk ?_
        refine X.lk ?_
        refine X.nil ?_
        refine ES.blkN ?_
        refine ES.seq ?_
        refine VS.region ?_
        refine X.lk ?_
        refine X.ck fun h6 => ?_
        refine X.lk ?_
        refine X.nil ?_
        exact ES.go ih_again2 (i1, (i1 + 1)) (St.le_sub ⟨rfl, rfl, rfl, rfl, rfl, rfl, trivial⟩ ⟨rfl, rfl, trivial⟩ rfl)
      · refine VS.skip ?_
        refine ES.blkN ?_
        refine ES.seq ?_
        refine VS.region ?_
        refine X.lk ?_
        refine X.ck fun h7 => ?_
        refine X.lk ?_
        refine X.nil ?_
        exact ES.go ih_again2 (n2, (i1 + 1)) (St.le_sub ⟨rfl, rfl, rfl, rfl, rfl, rfl, trivial⟩ ⟨rfl, rfl, trivial⟩ rfl)
    · refine VS.exit ?_
      refine ES.thnE ?_
      refine ES.thnE ?_
      refine ES.blkE ?_
      refine ES.seq ?_
      refine VS.region ?_
      refine X.lk ?_
      refine X.lk ?_
      refine X.bs 2 ([n2] : List Int) iRow ?_
      refine X.appMM 3 (l := out1) (l' := ([n2] : List Int)) (fun h8 => ?_)
      refine X.lk ?_
      refine X.nil ?_
      refine ES.blkN ?_
      refine ES.seq ?_
      refine VS.region ?_
      refine X.lk ?_
      refine X.ck fun h9 => ?_
      refine X.lk ?_
      refine X.nil ?_
      exact ES.go ih_again1 ((s1 + 1), (out1 ++ ([n2] : List Int))) ((St.le_mvB _ 3 1 rfl rfl rfl rfl).trans (St.le_sub ⟨rfl, rfl, rfl, rfl, trivial⟩ ⟨rfl, rfl, trivial⟩ rfl))
  · refine VS.exit ?_
    refine ES.thnE ?_
    refine ES.thnE ?_
    refine ES.blkE ?_
    refine ES.seq ?_
    refine VS.seq ?_
    refine VS.region ?_
    refine X.lk ?_
    refine X.lk ?_
    refine X.nil ?_
    refine ES.seq ?_
    refine VS.ret ?_
    refine ES.ret ?_
    exact Ret.weak (St.le_tree _ 4 1 rfl rfl) (Ret.clo [.c (.v (.tree (out1.map iRow)))] ⟨rfl, trivial⟩ trivial)
set_option maxHeartbeats 4000000 in
theorem r21_Places_ok (r1 : ARename) : ∀ r : List Int, r21_Places r1 r → FCalls Try.prog 118 [] [.agg ((row_ARename r1).map .v)] (.w (.c (.v (.tree (r.map iRow))))) [] [] := by
  refine fnS 25 ?_
  unfold r21_Places
  refine VS.seq ?_
  refine VS.region ?_
  refine X.box 0 ?_
  refine X.lk ?_
  refine X.nil ?_
  refine ES.seq ?_
  refine VS.seq ?_
  refine VS.region ?_
  refine X.lk ?_
  refine X.nil ?_
  refine ES.seq ?_
  refine VS.seq ?_
  refine VS.region ?_
  refine X.lk ?_
  refine X.nil ?_
  refine ES.seq ?_
  refine VS.seq ?_
  refine VS.seq ?_
  refine VS.region ?_
  refine X.lk ?_
  refine X.nil ?_
  refine ES.seq ?_
  refine VS.block ?_
  refine VS.loop (fun jj : Int × Int × List Int => (⟨[(1, .w (.c (.ptr 0 0 0))), (3, .w (.c (.mref 1))), (4, .w (.c (.v (.int .i64 jj.1)))), (5, .w (.c (.v (.int .i64 jj.2.1))))], [some (.bx 38 ((row_ARename r1).map .v)), some (.sl 3 1 false (jj.2.2.map iRow))]⟩ : St)) (j0 := (0, 0, ([] : List Int))) ((St.le_keep _ [1, 3, 4, 5]).trans ((St.le_adopt _ 3 1 3 1 rfl rfl).trans (St.le_sub ⟨rfl, rfl, rfl, rfl, trivial⟩ ⟨rfl, rfl, trivial⟩ rfl))) ?_
  rintro n2 again1 ih_again1 ⟨n1, k1, out1⟩
  refine VS.seq ?_
  refine VS.seq ?_
  refine VS.region ?_
  refine X.lk ?_
  refine X.lk ?_
  refine X.lk ?_
  refine X.lenT ?_
  refine X.lk ?_
  refine X.nil ?_
  refine ES.seq ?_
  refine VS.cond (fun h1 => ?_) (fun h1 => ?_)
  · refine VS.skip ?_
    refine ES.seq ?_
    refine VS.seq ?_
    refine VS.block ?_
    refine VS.seq ?_
    refine VS.region ?_
    refine X.lk ?_
    refine X.lk ?_
    refine X.bs 2 ([n1] : List Int) iRow ?_
    refine X.appMM 3 (l := out1) (l' := ([n1] : List Int)) (fun h2 => ?_)
    refine X.lk ?_
    refine X.nil ?_
    refine ES.seq ?_
    refine VS.seq ?_
    refine VS.region ?_
    refine X.lk ?_
    refine X.lk ?_
    refine X.lk ?_
    refine X.idxT (fun h3 => ?_)
    refine X.lk ?_
    refine X.nil ?_
    refine ES.seq ?_
    refine VS.cond (fun h4 => ?_) (fun h4 => ?_)
    · refine VS.region ?_
      refine X.lk ?_
      refine X.ck fun h5 => ?_
      refine X.lk ?_
      refine X.nil ?_
      refine ES.blkN ?_
      refine ES.seq ?_
      refine VS.region ?_
      refine X.lk ?_
      refine X.ck fun h6 => ?_
      refine X.lk ?_
      refine X.nil ?_
      exact ES.go ih_again1 ((n1 + 1), (k1 + 1), (out1 ++ ([n1] : List Int))) ((St.le_mvB _ 3 1 rfl rfl rfl rfl).trans (St.le_sub ⟨rfl, rfl, rfl, rfl, trivial⟩ ⟨rfl, rfl, trivial⟩ rfl))
    · refine VS.skip ?_
      refine ES.blkN ?_
      refine ES.seq ?_
      refine VS.region ?_
      refine X.lk ?_
      refine X.ck fun h7 => ?_
      refine X.lk ?_
      refine X.nil ?_
      exact ES.go ih_again1 (n1, (k1 + 1), (out1 ++ ([n1] : List Int))) ((St.le_mvB _ 3 1 rfl rfl rfl rfl).trans (St.le_sub ⟨rfl, rfl, rfl, rfl, trivial⟩ ⟨rfl, rfl, trivial⟩ rfl))
  · refine VS.exit ?_
    refine ES.thnE ?_
    refine ES.thnE ?_
    refine ES.blkE ?_
    refine ES.seq ?_
    refine VS.seq ?_
    refine VS.region ?_
    refine X.lk ?_
    refine X.lk ?_
    refine X.nil ?_
    refine ES.seq ?_
    refine VS.ret ?_
    refine ES.ret ?_
    exact Ret.weak (St.le_tree _ 2 1 rfl rfl) (Ret.clo [.c (.v (.tree (out1.map iRow)))] ⟨rfl, trivial⟩ trivial)
set_option maxHeartbeats 4000000 in
theorem r21_Apply_ok (f1 : AFunc) (r1 : ARename) : ∀ r : AFunc × Int, r21_Apply f1 r1 r → FCalls Try.prog 92 [] [.agg ((row_AFunc f1).map .v), .agg ((row_ARename r1).map .v)] (.tup [.agg ((row_AFunc r.1).map .v), .c (.v (.int .i64 r.2))]) [] [] := by
  refine fnS 132 ?_
  unfold r21_Apply
  refine VS.seq ?_
  refine VS.region ?_
  refine X.box 0 ?_
  refine X.box 1 ?_
  refine X.alloc 2 ?_
  refine X.lk ?_
  refine X.nil ?_
  refine ES.seq ?_
  refine VS.seq ?_
  refine VS.seq ?_
  refine VS.region ?_
  refine X.lk ?_
  refine X.lk ?_
  refine X.call true [] [] (r21_Check_ok f1 r1) (fun x1 => ?_)
  refine X.lk ?_
  refine X.nil ?_
  refine ES.seq ?_
  refine VS.seq ?_
  refine VS.region ?_
  refine X.lk ?_
  refine X.lk ?_
  refine X.nil ?_
  refine ES.seq ?_
  refine VS.cond (fun h1 => ?_) (fun h1 => ?_)
  · refine VS.seq ?_
    refine VS.region ?_
    refine X.build ?_
    refine X.lk ?_
    refine X.st ?_
    refine X.lk ?_
    refine X.nil ?_
    refine ES.seq ?_
    refine VS.ret ?_
    refine ES.thnR ?_
    refine ES.ret ?_
    exact Ret.clo [.agg ((row_AFunc (⟨0, ([] : List ASlot), ([] : List AInstr)⟩ : AFunc)).map .v), .c (.v (.int .i64 x1))] ⟨⟨_, _, _, _, _, _, rfl, rfl, fits rfl, rfl⟩, rfl, trivial⟩ trivial
  · refine VS.skip ?_
    refine ES.seq ?_
    refine VS.seq ?_
    refine VS.region ?_
    refine X.lk ?_
    refine X.lk ?_
    refine X.call true [] [] (r21_Used_ok f1 r1) (fun x2 => ?_)
    refine X.lk ?_
    refine X.nil ?_
    refine ES.seq ?_
    refine VS.seq ?_
    refine VS.region ?_
    refine X.lk ?_
    refine X.lk ?_
    refine X.build ?_
    refine X.alloc 3 ?_
    refine X.st ?_
    refine X.nil ?_
    refine ES.seq ?_
    refine VS.seq ?_
    refine VS.seq ?_
    refine VS.region ?_
    refine X.lk ?_
    refine X.nil ?_
    refine ES.seq ?_
    refine VS.block ?_
    refine VS.loop (fun jj : Int × List ASlot => (⟨[(2, .w (.c (.ptr 0 0 0))), (3, .w (.c (.ptr 1 0 0))), (4, .w (.c (.ptr 2 0 0))), (7, .w (.c (.v (.tree (x2.map iRow))))), (8, .w (.c (.ptr 3 0 0))), (9, .w (.c (.v (.int .i64 jj.1))))], [some (.bx 35 ((row_AFunc f1).map .v)), some (.bx 38 ((row_ARename r1).map .v)), some (.bx 35 [.v (.int .i64 0), .v (.tree (([] : List ASlot).map row_ASlot)), .v (.tree (([] : List AInstr).map row_AInstr))]), some (.bx 35 [.v (.int .i64 f1.Params), .v (.tree (jj.2.map row_ASlot)), .v (.tree (([] : List AInstr).map row_AInstr))])]⟩ : St)) (j0 := (0, ([] : List ASlot))) (St.le_sub ⟨rfl, rfl, rfl, rfl, rfl, rfl, trivial⟩ ⟨rfl, rfl, rfl, rfl, trivial⟩ rfl) ?_
    rintro n1 again1 ih_again1 ⟨i1, Slots1⟩
    refine VS.seq ?_
    refine VS.seq ?_
    refine VS.region ?_
    refine X.lk ?_
    refine X.lk ?_
    refine X.lenT ?_
    refine X.lk ?_
    refine X.nil ?_
    refine ES.seq ?_
    refine VS.cond (fun h2 => ?_) (fun h2 => ?_)
    · refine VS.skip ?_
      refine ES.seq ?_
      refine VS.seq ?_
      refine VS.block ?_
      refine VS.seq ?_
      refine VS.drawn ?_
      refine X.lk ?_
      refine X.lk ?_
      refine X.lk ?_
      refine X.lk ?_
      refine X.idxT (fun h3 => ?_)
      refine X.lk ?_
      refine X.idxT (fun h4 => ?_)
      refine X.lk ?_
      refine X.alloc 4 ?_
      refine X.st ?_
      refine X.nilD ?_ (by kernel_rfl)
      refine ES.seq ?_
      refine VS.seq ?_
      refine VS.drawn ?_
      refine X.lk ?_
      refine X.lk ?_
      refine X.lk ?_
      refine X.lk ?_
      refine X.idxT (fun h5 => ?_)
      refine X.lk ?_
      refine X.call true [] [] (r19_Members_ok r1.To (atD x2 i1)) (fun x3 => ?_)
      refine X.lk ?_
      refine X.nilD ?_ (by kernel_rfl)
      refine ES.seq ?_
      refine VS.seq ?_
      refine VS.seq ?_
      refine VS.region ?_
      refine X.lk ?_
      refine X.nil ?_
      refine ES.seq ?_
      refine VS.block ?_
      refine VS.loop (fun jj : Int × ASlot => (⟨[(2, .w (.c (.ptr 0 0 0))), (3, .w (.c (.ptr 1 0 0))), (4, .w (.c (.ptr 2 0 0))), (7, .w (.c (.v (.tree (x2.map iRow))))), (8, .w (.c (.ptr 3 0 0))), (9, .w (.c (.v (.int .i64 i1)))), (10, .w (.c (.ptr 4 0 0))), (11, .w (.c (.v (.tree (x3.map iRow))))), (12, .w (.c (.v (.int .i64 jj.1))))], [some (.bx 35 ((row_AFunc f1).map .v)), some (.bx 38 ((row_ARename r1).map .v)), some (.bx 35 [.v (.int .i64 0), .v (.tree (([] : List ASlot).map row_ASlot)), .v (.tree (([] : List AInstr).map row_AInstr))]), some (.bx 35 [.v (.int .i64 f1.Params), .v (.tree (Slots1.map row_ASlot)), .v (.tree (([] : List AInstr).map row_AInstr))]), some (.bx 57 ((row_ASlot jj.2).map .v))]⟩ : St)) (j0 := (0, (atD f1.Slots (atD x2 i1)))) (St.le_sub ⟨rfl, rfl, rfl, rfl, rfl, rfl, rfl, rfl, rfl, trivial⟩ ⟨rfl, rfl, rfl, rfl, rfl, trivial⟩ rfl) ?_
      rintro n2 again2 ih_again2 ⟨k1, s1⟩
      refine VS.seq ?_
      refine VS.seq ?_
      refine VS.region ?_
      refine X.lk ?_
      refine X.lk ?_
      refine X.lenT ?_
      refine X.lk ?_
      refine X.nil ?_
      refine ES.seq ?_
      refine VS.cond (fun h6 => ?_) (fun h6 => ?_)
      · refine VS.skip ?_
        refine ES.seq ?_
        refine VS.seq ?_
        refine VS.block ?_
        refine VS.drawn ?_
        refine X.lk ?_
        refine X.lk ?_
        refine X.lk ?_
        refine X.lk ?_
        refine X.lk ?_
        refine X.lk ?_
        refine X.idxT (fun h7 => ?_)
        refine X.lk ?_
        refine X.idxT (fun h8 => ?_)
        refine X.lk ?_
        refine X.lk ?_
        refine X.max ?_
        refine X.lk ?_
        refine X.st ?_
        refine X.nilD ?_ (by kernel_rfl)
        refine ES.blkN ?_
        refine ES.seq ?_
        refine VS.region ?_
        refine X.lk ?_
        refine X.ck fun h9 => ?_
        refine X.lk ?_
        refine X.nil ?_
        exact ES.go ih_again2 ((k1 + 1), (⟨s1.Size, (max s1.Align ((atD f1.Slots (atD x3 k1)).Align))⟩ : ASlot)) (St.le_sub ⟨rfl, rfl, rfl, rfl, rfl, rfl, rfl, rfl, rfl, trivial⟩ ⟨rfl, rfl, rfl, rfl, rfl, trivial⟩ rfl)
      · refine VS.exit ?_
        refine ES.thnE ?_
        refine ES.thnE ?_
        refine ES.blkE ?_
        refine ES.seq ?_
        refine VS.seq ?_
        refine VS.drawn ?_
        refine X.lk ?_
        refine X.lk ?_
        refine X.appNT 5 (l' := Slots1) (fun h10 => ?_)
        refine X.lk ?_
        refine X.bs 6 ([s1] : List ASlot) row_ASlot ?_
        refine X.appMM 7 (l := Slots1) (l' := ([s1] : List ASlot)) (fun h11 => ?_)
        refine X.lk ?_
        refine X.nilD ?_ (by kernel_rfl)
        refine ES.seq ?_
        refine VS.region ?_
        refine X.lk ?_
        refine X.lk ?_
        refine X.st ?_
        refine X.nil ?_
        refine ES.blkN ?_
        refine ES.seq ?_
        refine VS.region ?_
        refine X.lk ?_
        refine X.ck fun h12 => ?_
        refine X.lk ?_
        refine X.nil ?_
        exact ES.go ih_again1 ((i1 + 1), (Slots1 ++ ([s1] : List ASlot))) ((St.le_tcell _ 3 1 7 rfl rfl rfl rfl).trans (St.le_sub ⟨rfl, rfl, rfl, rfl, rfl, rfl, trivial⟩ ⟨rfl, rfl, rfl, rfl, trivial⟩ rfl))
    · refine VS.exit ?_
      refine ES.thnE ?_
      refine ES.thnE ?_
      refine ES.blkE ?_
      refine ES.seq ?_
      refine VS.seq ?_
      refine VS.drawn ?_
      refine X.lk ?_
      refine X.lk ?_
      refine X.call true [] [] (r21_numbers_ok r1 x2) (fun x4 => ?_)
      refine X.lk ?_
      refine X.call true [] [] (r21_Places_ok r1) (fun x5 => ?_)
      refine X.lk ?_
      refine X.lk ?_
      refine X.nilD ?_ (by kernel_rfl)
      refine ES.seq ?_
      refine VS.seq ?_
      refine VS.seq ?_
      refine VS.region ?_
      refine X.lk ?_
      refine X.nil ?_
      refine ES.seq ?_
      refine VS.block ?_
      refine VS.loop (fun jj : Int × List AInstr => (⟨[(2, .w (.c (.ptr 0 0 0))), (3, .w (.c (.ptr 1 0 0))), (4, .w (.c (.ptr 2 0 0))), (8, .w (.c (.ptr 3 0 0))), (14, .w (.c (.v (.tree (x4.map iRow))))), (15, .w (.c (.v (.tree (x5.map iRow))))), (16, .w (.c (.v (.int .i64 jj.1))))], [some (.bx 35 ((row_AFunc f1).map .v)), some (.bx 38 ((row_ARename r1).map .v)), some (.bx 35 [.v (.int .i64 0), .v (.tree (([] : List ASlot).map row_ASlot)), .v (.tree (([] : List AInstr).map row_AInstr))]), some (.bx 35 [.v (.int .i64 f1.Params), .v (.tree (Slots1.map row_ASlot)), .v (.tree (jj.2.map row_AInstr))])]⟩ : St)) (j0 := (0, ([] : List AInstr))) (St.le_sub ⟨rfl, rfl, rfl, rfl, rfl, rfl, rfl, trivial⟩ ⟨rfl, rfl, rfl, rfl, trivial⟩ rfl) ?_
      rintro n3 again3 ih_again3 ⟨k2, Code1⟩
      refine VS.seq ?_
      refine VS.seq ?_
      refine VS.region ?_
      refine X.lk ?_
      refine X.lk ?_
      refine X.lk ?_
      refine X.lenT ?_
      refine X.lk ?_
      refine X.nil ?_
      refine ES.seq ?_
      refine VS.cond (fun h13 => ?_) (fun h13 => ?_)
      · refine VS.skip ?_
        refine ES.seq ?_
        refine VS.seq ?_
        refine VS.block ?_
        refine VS.seq ?_
        refine VS.seq ?_
        refine VS.region ?_
        refine X.lk ?_
        refine X.lk ?_
        refine X.lk ?_
        refine X.idxT (fun h14 => ?_)
        refine X.lk ?_
        refine X.lk ?_
        refine X.nil ?_
        refine ES.seq ?_
        refine VS.cond (fun h15 => ?_) (fun h15 => ?_)
        · refine VS.exit ?_
          refine ES.thnE ?_
          refine ES.blkE ?_
          refine ES.seq ?_
          refine VS.region ?_
          refine X.lk ?_
          refine X.ck fun h16 => ?_
          refine X.lk ?_
          refine X.nil ?_
          exact ES.go ih_again3 ((k2 + 1), Code1) (St.le_sub ⟨rfl, rfl, rfl, rfl, rfl, rfl, rfl, trivial⟩ ⟨rfl, rfl, rfl, rfl, trivial⟩ rfl)
        · refine VS.skip ?_
          refine ES.seq ?_
          refine VS.seq ?_
          refine VS.region ?_
          refine X.lk ?_
          refine X.lk ?_
          refine X.lk ?_
          refine X.idxT (fun h17 => ?_)
          refine X.lk ?_
          refine X.lk ?_
          refine X.call true [] [] (r15_Renamed_ok (atD f1.Code k2) x4) (fun x6 => ?_)
          refine X.alloc 4 ?_
          refine X.st ?_
          refine X.nil ?_
          refine ES.seq ?_
          refine VS.join (fun (x7 : AInstr) => (⟨[(2, .w (.c (.ptr 0 0 0))), (3, .w (.c (.ptr 1 0 0))), (4, .w (.c (.ptr 2 0 0))), (8, .w (.c (.ptr 3 0 0))), (14, .w (.c (.v (.tree (x4.map iRow))))), (15, .w (.c (.v (.tree (x5.map iRow))))), (16, .w (.c (.v (.int .i64 k2)))), (17, .w (.c (.ptr 4 0 0)))], [some (.bx 35 ((row_AFunc f1).map .v)), some (.bx 38 ((row_ARename r1).map .v)), some (.bx 35 [.v (.int .i64 0), .v (.tree (([] : List ASlot).map row_ASlot)), .v (.tree (([] : List AInstr).map row_AInstr))]), some (.bx 35 [.v (.int .i64 f1.Params), .v (.tree (Slots1.map row_ASlot)), .v (.tree (Code1.map row_AInstr))]), some (.bx 66 ((row_AInstr x7).map .v))]⟩ : St)) ?_ ?_
          · rintro x7
            refine VS.seq ?_
            refine VS.drawn ?_
            refine X.lk ?_
            refine X.lk ?_
            refine X.appNT 5 (l' := Code1) (fun h18 => ?_)
            refine X.lk ?_
            refine X.bs 6 ([x7] : List AInstr) row_AInstr ?_
            refine X.appMM 7 (l := Code1) (l' := ([x7] : List AInstr)) (fun h19 => ?_)
            refine X.lk ?_
            refine X.nilD ?_ (by kernel_rfl)
            refine ES.seq ?_
            refine VS.region ?_
            refine X.lk ?_
            refine X.lk ?_
            refine X.st ?_
            refine X.nil ?_
            refine ES.blkN ?_
            refine ES.seq ?_
            refine VS.region ?_
            refine X.lk ?_
            refine X.ck fun h20 => ?_
            refine X.lk ?_
            refine X.nil ?_
            exact ES.go ih_again3 ((k2 + 1), (Code1 ++ ([x7] : List AInstr))) ((St.le_tcell _ 3 2 7 rfl rfl rfl rfl).trans (St.le_sub ⟨rfl, rfl, rfl, rfl, rfl, rfl, rfl, trivial⟩ ⟨rfl, rfl, rfl, rfl, trivial⟩ rfl))
          · intro k3 ih_k3
            refine VS.seq ?_
            refine VS.region ?_
            refine X.lk ?_
            refine X.lk ?_
            refine X.nil ?_
            refine ES.seq ?_
            refine VS.block ?_
            refine VS.seq ?_
            refine VS.region ?_
            refine X.lk ?_
            refine X.lk ?_
            refine X.nil ?_
            refine ES.seq ?_
            refine VS.cond (fun h21 => ?_) (fun h21 => ?_)
            · refine VS.region ?_
              refine X.lk ?_
              refine X.lk ?_
              refine X.lk ?_
              refine X.idxT (fun h22 => ?_)
              refine X.lk ?_
              refine X.lk ?_
              refine X.st ?_
              refine X.nil ?_
              refine ES.blkN ?_
              exact ES.jn ih_k3 (⟨x6.Op, (atD x5 x6.A), x6.B, x6.C, x6.Imm⟩ : AInstr) (St.le_sub ⟨rfl, rfl, rfl, rfl, rfl, rfl, rfl, rfl, trivial⟩ ⟨rfl, rfl, rfl, rfl, rfl, trivial⟩ rfl)
            · refine VS.seq ?_
              refine VS.region ?_
              refine X.lk ?_
              refine X.lk ?_
              refine X.nil ?_
              refine ES.seq ?_
              refine VS.cond (fun h23 => ?_) (fun h23 => ?_)
              · refine VS.region ?_
                refine X.lk ?_
                refine X.lk ?_
                refine X.lk ?_
                refine X.idxT (fun h24 => ?_)
                refine X.lk ?_
                refine X.lk ?_
                refine X.st ?_
                refine X.nil ?_
                refine ES.blkN ?_
                exact ES.jn ih_k3 (⟨x6.Op, x6.A, (atD x5 x6.B), x6.C, x6.Imm⟩ : AInstr) (St.le_sub ⟨rfl, rfl, rfl, rfl, rfl, rfl, rfl, rfl, trivial⟩ ⟨rfl, rfl, rfl, rfl, rfl, trivial⟩ rfl)
              · refine VS.skip ?_
                refine ES.blkN ?_
                exact ES.jn ih_k3 x6 (St.le_sub ⟨rfl, rfl, rfl, rfl, rfl, rfl, rfl, rfl, trivial⟩ ⟨rfl, rfl, rfl, rfl, rfl, trivial⟩ rfl)
      · refine VS.exit ?_
        refine ES.thnE ?_
        refine ES.thnE ?_
        refine ES.blkE ?_
        refine ES.seq ?_
        refine VS.seq ?_
        refine VS.region ?_
        refine X.lk ?_
        refine X.st ?_
        refine X.lk ?_
        refine X.nil ?_
        refine ES.seq ?_
        refine VS.ret ?_
        refine ES.ret ?_
        exact Ret.clo [.agg ((row_AFunc (⟨f1.Params, Slots1, Code1⟩ : AFunc)).map .v), .c (.v (.int .i64 0))] ⟨⟨_, _, _, _, _, _, rfl, rfl, fits rfl, rfl⟩, rfl, trivial⟩ trivial
set_option maxHeartbeats 4000000 in
theorem r18_Strict_ok (f1 : AFunc) (l1 : ALive) : ∀ r : List (List Int) × Int, r18_Strict f1 l1 r → FCalls Try.prog 93 [] [.agg ((row_AFunc f1).map .v), .agg ((row_ALive l1).map .v)] (.tup [.c (.v (.tree (r.1.map (sR iRow)))), .c (.v (.int .i64 r.2))]) [] [] := by
  refine fnS 11 ?_
  unfold r18_Strict
  refine VS.seq ?_
  refine VS.region ?_
  refine X.box 0 ?_
  refine X.box 1 ?_
  refine X.lk ?_
  refine X.lk ?_
  refine X.nil ?_
  refine ES.seq ?_
  refine VS.seq ?_
  refine VS.region ?_
  refine X.lk ?_
  refine X.lk ?_
  refine X.call true [] [] (r18_graph_ok f1 l1 true) (fun x1 => ?_)
  refine X.lk ?_
  refine X.lk ?_
  refine X.lk ?_
  refine X.lk ?_
  refine X.nil ?_
  refine ES.seq ?_
  refine VS.ret ?_
  refine ES.ret ?_
  exact Ret.clo [.c (.v (.tree (x1.1.map (sR iRow)))), .c (.v (.int .i64 x1.2))] ⟨rfl, rfl, trivial⟩ trivial
end Go.Proofs.Ytbppgdffochdmaa.Q
