/- Walks of functions: the code does what the lifted text says (written by a program). -/
import Derived.Test.YtbppgdffochdmaaGw3
set_option linter.unusedVariables false
set_option linter.unusedSimpArgs false
set_option maxRecDepth 8000
namespace Go.Proofs.Ytbppgdffochdmaa.Q
open Go.RowKit
set_option maxHeartbeats 4000000 in
theorem r17_missing_ok (f1 : AFunc) (l1 : ALive) (k1 : Int) : ∀ r : List Int, r17_missing f1 l1 k1 r → FCalls Try.prog 154 [] [.agg ((row_AFunc f1).map .v), .agg ((row_ALive l1).map .v), .c (.v (.int .i64 k1))] (.w (.c (.v (.tree (r.map iRow))))) [] [] := by
  refine fnS 44 ?_
  unfold r17_missing
  refine VS.seq ?_
  refine VS.region ?_
  refine X.box 0 ?_
  refine X.box 1 ?_
  refine X.lk ?_
  refine X.nil ?_
  refine ES.seq ?_
  refine VS.seq ?_
  refine VS.region ?_
  refine X.lk ?_
  refine X.nil ?_
  refine ES.seq ?_
  refine VS.seq ?_
  refine VS.region ?_
  refine X.lk ?_
  refine X.lk ?_
  refine X.call true [] [] (r13_Next_ok f1 k1) (fun x1 => ?_)
  refine X.lk ?_
  refine X.nil ?_
  refine ES.seq ?_
  refine VS.seq ?_
  refine VS.seq ?_
  refine VS.region ?_
  refine X.lk ?_
  refine X.nil ?_
  refine ES.seq ?_
  refine VS.block ?_
  refine VS.loop (fun jj : List Int × Int => (⟨[(2, .w (.c (.v (.int .i64 k1)))), (3, .w (.c (.ptr 0 0 0))), (4, .w (.c (.ptr 1 0 0))), (7, .w (.c (.v (.tree (jj.1.map iRow))))), (8, .w (.c (.v (.tree (x1.map iRow))))), (9, .w (.c (.v (.int .i64 jj.2))))], [some (.bx 35 ((row_AFunc f1).map .v)), some (.bx 86 ((row_ALive l1).map .v))]⟩ : St)) (j0 := (([] : List Int), 0)) ((St.le_nil _ 7 rfl).trans (St.le_sub ⟨rfl, rfl, rfl, rfl, rfl, rfl, trivial⟩ ⟨rfl, rfl, trivial⟩ rfl)) ?_
  rintro n1 again1 ih_again1 ⟨out1, i1⟩
  refine VS.seq ?_
  refine VS.seq ?_
  refine VS.region ?_
  refine X.lk ?_
  refine X.lk ?_
  refine X.lenT ?_
  refine X.lk ?_
  refine X.nil ?_
  refine ES.seq ?_
  refine VS.cond (fun h1 => ?_) (fun h1 => ?_)
  · refine VS.skip ?_
    refine ES.seq ?_
    refine VS.seq ?_
    refine VS.block ?_
    refine VS.seq ?_
    refine VS.region ?_
    refine X.lk ?_
    refine X.lk ?_
    refine X.idxT (fun h2 => ?_)
    refine X.lk ?_
    refine X.lk ?_
    refine X.nil ?_
    refine ES.seq ?_
    refine VS.drawn ?_
    refine X.lk ?_
    refine X.lk ?_
    refine X.lk ?_
    refine X.lk ?_
    refine X.idxT (fun h3 => ?_)
    refine X.lk ?_
    refine X.lk ?_
    refine X.lk ?_
    refine X.lk ?_
    refine X.idxT (fun h4 => ?_)
    refine X.lk ?_
    refine X.call true [] [] (r15_In_ok (atD f1.Code (atD x1 i1)) (atD l1.Out (atD x1 i1))) (fun x2 => ?_)
    refine X.lk ?_
    refine X.lk ?_
    refine X.lk ?_
    refine X.idxT (fun h5 => ?_)
    refine X.lk ?_
    refine X.call true [] [] (r04_Minus_ok x2 (atD l1.Out k1)) (fun x3 => ?_)
    refine X.call true [] [] (r04_Union_ok out1 x3) (fun x4 => ?_)
    refine X.lk ?_
    refine X.nilD ?_ (by kernel_rfl)
    refine ES.blkN ?_
    refine ES.seq ?_
    refine VS.region ?_
    refine X.lk ?_
    refine X.ck fun h6 => ?_
    refine X.lk ?_
    refine X.nil ?_
    exact ES.go ih_again1 (x4, (i1 + 1)) (St.le_sub ⟨rfl, rfl, rfl, rfl, rfl, rfl, trivial⟩ ⟨rfl, rfl, trivial⟩ rfl)
  · refine VS.exit ?_
    refine ES.thnE ?_
    refine ES.thnE ?_
    refine ES.blkE ?_
    refine ES.seq ?_
    refine VS.seq ?_
    refine VS.region ?_
    refine X.lk ?_
    refine X.lk ?_
    refine X.nil ?_
    refine ES.seq ?_
    refine VS.ret ?_
    refine ES.ret ?_
    exact Ret.clo [.c (.v (.tree (out1.map iRow)))] ⟨rfl, trivial⟩ trivial
set_option maxHeartbeats 4000000 in
theorem r17_First_ok (f1 : AFunc) (l1 : ALive) : ∀ r : Int × Int × Bool, r17_First f1 l1 r → FCalls Try.prog 137 [] [.agg ((row_AFunc f1).map .v), .agg ((row_ALive l1).map .v)] (.tup [.c (.v (.int .i64 r.1)), .c (.v (.int .i64 r.2.1)), .c (.v (.bool r.2.2))]) [] [] := by
  refine fnS 31 ?_
  unfold r17_First
  refine VS.seq ?_
  refine VS.region ?_
  refine X.box 0 ?_
  refine X.box 1 ?_
  refine X.lk ?_
  refine X.lk ?_
  refine X.lk ?_
  refine X.nil ?_
  refine ES.seq ?_
  refine VS.seq ?_
  refine VS.seq ?_
  refine VS.region ?_
  refine X.lk ?_
  refine X.lk ?_
  refine X.call true [] [] (r17_shape_ok f1 l1) (fun x1 => ?_)
  refine X.lk ?_
  refine X.nil ?_
  refine ES.seq ?_
  refine VS.cond (fun h1 => ?_) (fun h1 => ?_)
  · refine VS.seq ?_
    refine VS.region ?_
    refine X.lk ?_
    refine X.lk ?_
    refine X.lk ?_
    refine X.nil ?_
    refine ES.seq ?_
    refine VS.ret ?_
    refine ES.thnR ?_
    refine ES.ret ?_
    exact Ret.clo [.c (.v (.int .i64 0)), .c (.v (.int .i64 0)), .c (.v (.bool false))] ⟨rfl, rfl, rfl, trivial⟩ trivial
  · refine VS.skip ?_
    refine ES.seq ?_
    refine VS.seq ?_
    refine VS.seq ?_
    refine VS.region ?_
    refine X.lk ?_
    refine X.nil ?_
    refine ES.seq ?_
    refine VS.block ?_
    refine VS.loop (fun (k1 : Int) => (⟨[(2, .w (.c (.ptr 0 0 0))), (3, .w (.c (.ptr 1 0 0))), (7, .w (.c (.v (.int .i64 k1))))], [some (.bx 35 ((row_AFunc f1).map .v)), some (.bx 86 ((row_ALive l1).map .v))]⟩ : St)) (j0 := 0) (St.le_sub ⟨rfl, rfl, rfl, trivial⟩ ⟨rfl, rfl, trivial⟩ rfl) ?_
    rintro n1 again1 ih_again1 k1
    refine VS.seq ?_
    refine VS.seq ?_
    refine VS.region ?_
    refine X.lk ?_
    refine X.lk ?_
    refine X.lk ?_
    refine X.lenT ?_
    refine X.lk ?_
    refine X.nil ?_
    refine ES.seq ?_
    refine VS.cond (fun h2 => ?_) (fun h2 => ?_)
    · refine VS.skip ?_
      refine ES.seq ?_
      refine VS.seq ?_
      refine VS.block ?_
      refine VS.seq ?_
      refine VS.region ?_
      refine X.lk ?_
      refine X.lk ?_
      refine X.lk ?_
      refine X.call true [] [] (r17_missing_ok f1 l1 k1) (fun x2 => ?_)
      refine X.lk ?_
      refine X.nil ?_
      refine ES.seq ?_
      refine VS.seq ?_
      refine VS.region ?_
      refine X.lk ?_
      refine X.lenT ?_
      refine X.lk ?_
      refine X.nil ?_
      refine ES.seq ?_
      refine VS.cond (fun h3 => ?_) (fun h3 => ?_)
      · refine VS.seq ?_
        refine VS.drawn ?_
        refine X.lk ?_
        refine X.lk ?_
        refine X.idxT (fun h4 => ?_)
        refine X.lk ?_
        refine X.lk ?_
        refine X.lk ?_
        refine X.lk ?_
        refine X.nilD ?_ (by kernel_rfl)
        refine ES.seq ?_
        refine VS.ret ?_
        refine ES.blkR ?_
        refine ES.thnR ?_
        refine ES.thnR ?_
        refine ES.blkR ?_
        refine ES.thnR ?_
        refine ES.ret ?_
        exact Ret.clo [.c (.v (.int .i64 k1)), .c (.v (.int .i64 (atD x2 0))), .c (.v (.bool true))] ⟨rfl, rfl, rfl, trivial⟩ trivial
      · refine VS.skip ?_
        refine ES.blkN ?_
        refine ES.seq ?_
        refine VS.region ?_
        refine X.lk ?_
        refine X.ck fun h5 => ?_
        refine X.lk ?_
        refine X.nil ?_
        exact ES.go ih_again1 (k1 + 1) (St.le_sub ⟨rfl, rfl, rfl, trivial⟩ ⟨rfl, rfl, trivial⟩ rfl)
    · refine VS.exit ?_
      refine ES.thnE ?_
      refine ES.thnE ?_
      refine ES.blkE ?_
      refine ES.seq ?_
      refine VS.seq ?_
      refine VS.region ?_
      refine X.lk ?_
      refine X.lk ?_
      refine X.lk ?_
      refine X.nil ?_
      refine ES.seq ?_
      refine VS.ret ?_
      refine ES.ret ?_
      exact Ret.clo [.c (.v (.int .i64 0)), .c (.v (.int .i64 0)), .c (.v (.bool false))] ⟨rfl, rfl, rfl, trivial⟩ trivial
set_option maxHeartbeats 4000000 in
theorem r17_Check_ok (f1 : AFunc) (l1 : ALive) : ∀ r : Int, r17_Check f1 l1 r → FCalls Try.prog 109 [] [.agg ((row_AFunc f1).map .v), .agg ((row_ALive l1).map .v)] (.w (.c (.v (.int .i64 r)))) [] [] := by
  refine fnS 22 ?_
  unfold r17_Check
  refine VS.seq ?_
  refine VS.region ?_
  refine X.box 0 ?_
  refine X.box 1 ?_
  refine X.lk ?_
  refine X.nil ?_
  refine ES.seq ?_
  refine VS.seq ?_
  refine VS.seq ?_
  refine VS.region ?_
  refine X.lk ?_
  refine X.lk ?_
  refine X.call true [] [] (r17_First_ok f1 l1) (fun x1 => ?_)
  refine X.lk ?_
  refine X.lk ?_
  refine X.lk ?_
  refine X.lk ?_
  refine X.lk ?_
  refine X.lk ?_
  refine X.lk ?_
  refine X.nil ?_
  refine ES.seq ?_
  refine VS.seq ?_
  refine VS.region ?_
  refine X.lk ?_
  refine X.lk ?_
  refine X.bif (b := x1.2.2) (fun h1 => ?_) (fun h1 => ?_)
  · refine X.gN h1 ?_
    refine X.gN h1 ?_
    refine X.gN h1 ?_
    refine X.gN h1 ?_
    refine X.pT h1 ?_
    refine X.nil ?_
    refine ES.seq ?_
    refine VS.condT rfl ?_
    refine VS.seq ?_
    refine VS.region ?_
    refine X.lk ?_
    refine X.nil ?_
    refine ES.seq ?_
    refine VS.ret ?_
    refine ES.thnR ?_
    refine ES.ret ?_
    exact Ret.clo [.c (.v (.int .i64 11))] ⟨rfl, trivial⟩ trivial
  · refine X.gY h1 ?_
    refine X.lk ?_
    refine X.gY h1 ?_
    refine X.lk ?_
    refine X.gY h1 ?_
    refine X.call true [] [] (r17_shape_ok f1 l1) (fun x2 => ?_)
    refine X.gY h1 ?_
    refine X.lk ?_
    refine X.pF h1 ?_
    refine X.nil ?_
    refine ES.seq ?_
    refine VS.cond (fun h2 => ?_) (fun h2 => ?_)
    · refine VS.seq ?_
      refine VS.region ?_
      refine X.lk ?_
      refine X.nil ?_
      refine ES.seq ?_
      refine VS.ret ?_
      refine ES.thnR ?_
      refine ES.ret ?_
      exact Ret.clo [.c (.v (.int .i64 11))] ⟨rfl, trivial⟩ trivial
    · refine VS.skip ?_
      refine ES.seq ?_
      refine VS.seq ?_
      refine VS.region ?_
      refine X.lk ?_
      refine X.nil ?_
      refine ES.seq ?_
      refine VS.ret ?_
      refine ES.ret ?_
      exact Ret.clo [.c (.v (.int .i64 0))] ⟨rfl, trivial⟩ trivial
set_option maxHeartbeats 4000000 in
theorem r18_graph_ok (f1 : AFunc) (l1 : ALive) (strict1 : Bool) : ∀ r : List (List Int) × Int, r18_graph f1 l1 strict1 r → FCalls Try.prog 88 [] [.agg ((row_AFunc f1).map .v), .agg ((row_ALive l1).map .v), .c (.v (.bool strict1))] (.tup [.c (.v (.tree (r.1.map (sR iRow)))), .c (.v (.int .i64 r.2))]) [] [] := by
  refine fnS 111 ?_
  unfold r18_graph
  refine VS.seq ?_
  refine VS.region ?_
  refine X.box 0 ?_
  refine X.box 1 ?_
  refine X.lk ?_
  refine X.lk ?_
  refine X.nil ?_
  refine ES.seq ?_
  refine VS.seq ?_
  refine VS.seq ?_
  refine VS.region ?_
  refine X.lk ?_
  refine X.lk ?_
  refine X.call true [] [] (r17_Check_ok f1 l1) (fun x1 => ?_)
  refine X.lk ?_
  refine X.nil ?_
  refine ES.seq ?_
  refine VS.seq ?_
  refine VS.region ?_
  refine X.lk ?_
  refine X.lk ?_
  refine X.nil ?_
  refine ES.seq ?_
  refine VS.cond (fun h1 => ?_) (fun h1 => ?_)
  · refine VS.seq ?_
    refine VS.region ?_
    refine X.lk ?_
    refine X.lk ?_
    refine X.lk ?_
    refine X.nil ?_
    refine ES.seq ?_
    refine VS.ret ?_
    refine ES.thnR ?_
    refine ES.ret ?_
    exact Ret.weak (St.le_nil _ 6 rfl) (Ret.clo [.c (.v (.tree (([] : List (List Int)).map (sR iRow)))), .c (.v (.int .i64 x1))] ⟨rfl, rfl, trivial⟩ trivial)
  · refine VS.skip ?_
    refine ES.seq ?_
    refine VS.seq ?_
    refine VS.region ?_
    refine X.lk ?_
    refine X.lk ?_
    refine X.lenT ?_
    refine X.make 2 (α := List Int) (sR iRow) (fun h2 => ?_)
    refine X.lk ?_
    refine X.nil ?_
    refine ES.seq ?_
    refine VS.seq ?_
    refine VS.seq ?_
    refine VS.region ?_
    refine X.lk ?_
    refine X.nil ?_
    refine ES.seq ?_
    refine VS.block ?_
    refine VS.loop (fun jj : Int × List (List Int) => (⟨[(2, .w (.c (.v (.bool strict1)))), (3, .w (.c (.ptr 0 0 0))), (4, .w (.c (.ptr 1 0 0))), (9, .w (.c (.mref 2))), (10, .w (.c (.v (.int .i64 jj.1))))], [some (.bx 35 ((row_AFunc f1).map .v)), some (.bx 86 ((row_ALive l1).map .v)), some (.sl 23 1 false (jj.2.map (sR iRow)))]⟩ : St)) (j0 := (0, (repD (f1.Slots.length : Int) : List (List Int)))) (St.le_sub ⟨rfl, rfl, rfl, rfl, rfl, trivial⟩ ⟨rfl, rfl, rfl, trivial⟩ rfl) ?_
    rintro n1 again1 ih_again1 ⟨k1, out1⟩
    refine VS.seq ?_
    refine VS.seq ?_
    refine VS.region ?_
    refine X.lk ?_
    refine X.lk ?_
    refine X.lk ?_
    refine X.lenT ?_
    refine X.lk ?_
    refine X.nil ?_
    refine ES.seq ?_
    refine VS.cond (fun h3 => ?_) (fun h3 => ?_)
    · refine VS.skip ?_
      refine ES.seq ?_
      refine VS.seq ?_
      refine VS.block ?_
      refine VS.seq ?_
      refine VS.region ?_
      refine X.lk ?_
      refine X.lk ?_
      refine X.lk ?_
      refine X.idxT (fun h4 => ?_)
      refine X.lk ?_
      refine X.alloc 3 ?_
      refine X.st ?_
      refine X.nil ?_
      refine ES.seq ?_
      refine VS.seq ?_
      refine VS.region ?_
      refine X.lk ?_
      refine X.call true [] [] (r15_Defines_ok (atD f1.Code k1)) (fun x2 => ?_)
      refine X.lk ?_
      refine X.lk ?_
      refine X.lk ?_
      refine X.lk ?_
      refine X.lk ?_
      refine X.nil ?_
      refine ES.seq ?_
      refine VS.join (fun (_ : Unit) => (⟨[(2, .w (.c (.v (.bool strict1)))), (3, .w (.c (.ptr 0 0 0))), (4, .w (.c (.ptr 1 0 0))), (9, .w (.c (.mref 2))), (10, .w (.c (.v (.int .i64 k1)))), (11, .w (.c (.ptr 3 0 0))), (12, .w (.c (.v (.int .i64 x2.1)))), (13, .w (.c (.v (.bool x2.2))))], [some (.bx 35 ((row_AFunc f1).map .v)), some (.bx 86 ((row_ALive l1).map .v)), some (.sl 23 1 false (out1.map (sR iRow))), some (.bx 66 ((row_AInstr (atD f1.Code k1)).map .v))]⟩ : St)) ?_ ?_
      · rintro ⟨⟩
        refine VS.seq ?_
        refine VS.region ?_
        refine X.lk ?_
        refine X.nil ?_
        refine ES.seq ?_
        refine VS.block ?_
        refine VS.loop (fun jj : Int × List (List Int) => (⟨[(2, .w (.c (.v (.bool strict1)))), (3, .w (.c (.ptr 0 0 0))), (4, .w (.c (.ptr 1 0 0))), (9, .w (.c (.mref 2))), (10, .w (.c (.v (.int .i64 k1)))), (11, .w (.c (.ptr 3 0 0))), (12, .w (.c (.v (.int .i64 x2.1)))), (13, .w (.c (.v (.bool x2.2)))), (14, .w (.c (.v (.int .i64 jj.1))))], [some (.bx 35 ((row_AFunc f1).map .v)), some (.bx 86 ((row_ALive l1).map .v)), some (.sl 23 1 false (jj.2.map (sR iRow))), some (.bx 66 ((row_AInstr (atD f1.Code k1)).map .v))]⟩ : St)) (j0 := (0, out1)) (St.le_sub ⟨rfl, rfl, rfl, rfl, rfl, rfl, rfl, rfl, rfl, trivial⟩ ⟨rfl, rfl, rfl, rfl, trivial⟩ rfl) ?_
        rintro n2 again2 ih_again2 ⟨i1, out2⟩
        refine VS.seq ?_
        refine VS.seq ?_
        refine VS.region ?_
        refine X.lk ?_
        refine X.lk ?_
        refine X.lk ?_
        refine X.lk ?_
        refine X.idxT (fun h5 => ?_)
        refine X.lk ?_
        refine X.lenT ?_
        refine X.lk ?_
        refine X.lk ?_
        refine X.bif (b := (decide (i1 < ((atD l1.Out k1).length : Int)))) (fun h6 => ?_) (fun h6 => ?_)
        · refine X.gY h6 ?_
          refine X.lk ?_
          refine X.pT h6 ?_
          refine X.nil ?_
          refine ES.seq ?_
          refine VS.cond (fun h7 => ?_) (fun h7 => ?_)
          · refine VS.skip ?_
            refine ES.seq ?_
            refine VS.seq ?_
            refine VS.block ?_
            refine VS.seq ?_
            refine VS.region ?_
            refine X.lk ?_
            refine X.lk ?_
            refine X.lk ?_
            refine X.idxT (fun h8 => ?_)
            refine X.lk ?_
            refine X.lk ?_
            refine X.idxT (fun h9 => ?_)
            refine X.lk ?_
            refine X.lk ?_
            refine X.nil ?_
            refine ES.seq ?_
            refine VS.join (fun jj : Bool × Bool × Bool => (⟨[(2, .w (.c (.v (.bool strict1)))), (3, .w (.c (.ptr 0 0 0))), (4, .w (.c (.ptr 1 0 0))), (9, .w (.c (.mref 2))), (10, .w (.c (.v (.int .i64 k1)))), (11, .w (.c (.ptr 3 0 0))), (12, .w (.c (.v (.int .i64 x2.1)))), (13, .w (.c (.v (.bool x2.2)))), (14, .w (.c (.v (.int .i64 i1)))), (15, .w (.c (.v (.int .i64 (atD (atD l1.Out k1) i1))))), (62, .w (.c (.v (.bool x2.2)))), (78, .w (.c (.v (.bool strict1)))), (79, .w (.c (.v (.bool (!strict1))))), (80, .w (.c (.v (.bool (!strict1))))), (84, .w (.c (.v (.bool jj.1)))), (85, .w (.c (.v (.bool jj.2.1)))), (90, .w (.c (.v (.bool jj.2.2))))], [some (.bx 35 ((row_AFunc f1).map .v)), some (.bx 86 ((row_ALive l1).map .v)), some (.sl 23 1 false (out2.map (sR iRow))), some (.bx 66 ((row_AInstr (atD f1.Code k1)).map .v))]⟩ : St)) ?_ ?_
            · rintro ⟨x3, x4, x5⟩
              refine VS.drawn ?_
              refine X.lk ?_
              refine X.lk ?_
              refine X.lk ?_
              refine X.lk ?_
              refine X.lk ?_
              refine X.lk ?_
              refine X.idxM (l := out2) (i := x2.1) (fun h10 => ?_)
              refine X.ld (i := x2.1) h10 ?_
              refine X.lk ?_
              refine X.call true [] [] (r04_Add_ok (atD out2 x2.1) (atD (atD l1.Out k1) i1)) (fun x6 => ?_)
              refine X.lk ?_
              refine X.lk ?_
              refine X.idxM (l := out2) (i := (atD (atD l1.Out k1) i1)) (fun h11 => ?_)
              refine X.ld (i := (atD (atD l1.Out k1) i1)) h11 ?_
              refine X.lk ?_
              refine X.call true [] [] (r04_Add_ok (atD out2 (atD (atD l1.Out k1) i1)) x2.1) (fun x7 => ?_)
              refine X.idxM (l := out2) (i := x2.1) (fun h12 => ?_)
              refine X.set (i := x2.1) x6 h12 ?_
              refine X.idxM (l := (setD out2 x2.1 x6)) (i := (atD (atD l1.Out k1) i1)) (fun h13 => ?_)
              refine X.set (i := (atD (atD l1.Out k1) i1)) x7 h13 ?_
              refine X.nilD ?_ (by kernel_rfl)
              refine ES.blkN ?_
              refine ES.seq ?_
              refine VS.region ?_
              refine X.lk ?_
              refine X.ck fun h14 => ?_
              refine X.lk ?_
              refine X.nil ?_
              exact ES.go ih_again2 ((i1 + 1), (setD (setD out2 x2.1 x6) (atD (atD l1.Out k1) i1) x7)) (St.le_sub ⟨rfl, rfl, rfl, rfl, rfl, rfl, rfl, rfl, rfl, trivial⟩ ⟨rfl, rfl, rfl, rfl, trivial⟩ rfl)
            · intro k3 ih_k3
              refine VS.seq ?_
              refine VS.region ?_
              refine X.lk ?_
              refine X.lk ?_
              refine X.lk ?_
              refine X.lk ?_
              refine X.bif (b := (decide ((atD (atD l1.Out k1) i1) = x2.1))) (fun h15 => ?_) (fun h15 => ?_)
              · refine X.gN h15 ?_
                refine X.gN h15 ?_
                refine X.gN h15 ?_
                refine X.gU ?_
                refine X.gU ?_
                refine X.gU ?_
                refine X.gN h15 ?_
                refine X.gN h15 ?_
                refine X.gU ?_
                refine X.gU ?_
                refine X.gU ?_
                refine X.gU ?_
                refine X.gN h15 ?_
                refine X.pT h15 ?_
                refine X.nil ?_
                refine ES.seq ?_
                refine VS.condT rfl ?_
                refine VS.exit ?_
                refine ES.thnE ?_
                refine ES.blkE ?_
                refine ES.seq ?_
                refine VS.region ?_
                refine X.lk ?_
                refine X.ck fun h16 => ?_
                refine X.lk ?_
                refine X.nil ?_
                exact ES.go ih_again2 ((i1 + 1), out2) (St.le_sub ⟨rfl, rfl, rfl, rfl, rfl, rfl, rfl, rfl, rfl, trivial⟩ ⟨rfl, rfl, rfl, rfl, trivial⟩ rfl)
              · refine X.gY h15 ?_
                refine X.lk ?_
                refine X.gY h15 ?_
                refine X.lk ?_
                refine X.gY h15 ?_
                refine X.lk ?_
                refine X.bif (b := (!strict1)) (fun h17 => ?_) (fun h17 => ?_)
                · refine X.gY h17 ?_
                  refine X.lk ?_
                  refine X.gY h17 ?_
                  refine X.lk ?_
                  refine X.gY h17 ?_
                  refine X.lk ?_
                  refine X.gY h15 ?_
                  refine X.pT h17 ?_
                  refine X.gY h15 ?_
                  refine X.lk ?_
                  refine X.bif (b := (decide (((atD f1.Code k1).Op) = 17))) (fun h18 => ?_) (fun h18 => ?_)
                  · refine X.gY h18 ?_
                    refine X.lk ?_
                    refine X.gY h18 ?_
                    refine X.lk ?_
                    refine X.gY h18 ?_
                    refine X.lk ?_
                    refine X.gY h18 ?_
                    refine X.lk ?_
                    refine X.gY h15 ?_
                    refine X.pT h18 ?_
                    refine X.pF h15 ?_
                    refine X.nil ?_
                    refine ES.seq ?_
                    refine VS.cond (fun h19 => ?_) (fun h19 => ?_)
                    · refine VS.exit ?_
                      refine ES.thnE ?_
                      refine ES.blkE ?_
                      refine ES.seq ?_
                      refine VS.region ?_
                      refine X.lk ?_
                      refine X.ck fun h20 => ?_
                      refine X.lk ?_
                      refine X.nil ?_
                      exact ES.go ih_again2 ((i1 + 1), out2) (St.le_sub ⟨rfl, rfl, rfl, rfl, rfl, rfl, rfl, rfl, rfl, trivial⟩ ⟨rfl, rfl, rfl, rfl, trivial⟩ rfl)
                    · refine VS.skip ?_
                      exact ES.jn ih_k3 ((decide (((atD f1.Code k1).Op) = 17)), (decide (((atD f1.Code k1).Op) = 17)), (decide (((atD f1.Code k1).B) = (atD (atD l1.Out k1) i1)))) (St.le_sub ⟨rfl, rfl, rfl, rfl, rfl, rfl, rfl, rfl, rfl, rfl, rfl, rfl, rfl, rfl, rfl, rfl, rfl, trivial⟩ ⟨rfl, rfl, rfl, rfl, trivial⟩ rfl)
                  · refine X.gN h18 ?_
                    refine X.gN h18 ?_
                    refine X.gN h18 ?_
                    refine X.gN h18 ?_
                    refine X.gY h15 ?_
                    refine X.pF h18 ?_
                    refine X.pF h15 ?_
                    refine X.nil ?_
                    refine ES.seq ?_
                    refine VS.condF rfl ?_
                    refine VS.skip ?_
                    exact ES.jn ih_k3 ((decide (((atD f1.Code k1).Op) = 17)), (decide (((atD f1.Code k1).Op) = 17)), false) (St.le_sub ⟨rfl, rfl, rfl, rfl, rfl, rfl, rfl, rfl, rfl, rfl, rfl, rfl, rfl, rfl, rfl, rfl, rfl, trivial⟩ ⟨rfl, rfl, rfl, rfl, trivial⟩ rfl)
                · refine X.gN h17 ?_
                  refine X.gN h17 ?_
                  refine X.gN h17 ?_
                  refine X.gY h15 ?_
                  refine X.pF h17 ?_
                  refine X.gY h15 ?_
                  refine X.lk ?_
                  refine X.gN rfl ?_
                  refine X.gN rfl ?_
                  refine X.gN rfl ?_
                  refine X.gN rfl ?_
                  refine X.gY h15 ?_
                  refine X.pF rfl ?_
                  refine X.pF h15 ?_
                  refine X.nil ?_
                  refine ES.seq ?_
                  refine VS.condF rfl ?_
                  refine VS.skip ?_
                  exact ES.jn ih_k3 (false, false, false) (St.le_sub ⟨rfl, rfl, rfl, rfl, rfl, rfl, rfl, rfl, rfl, rfl, rfl, rfl, rfl, rfl, rfl, rfl, rfl, trivial⟩ ⟨rfl, rfl, rfl, rfl, trivial⟩ rfl)
          · refine VS.exit ?_
            refine ES.thnE ?_
            refine ES.thnE ?_
            refine ES.blkE ?_
            refine ES.blkN ?_
            refine ES.seq ?_
            refine VS.region ?_
            refine X.lk ?_
            refine X.ck fun h21 => ?_
            refine X.lk ?_
            refine X.nil ?_
            exact ES.go ih_again1 ((k1 + 1), out2) (St.le_sub ⟨rfl, rfl, rfl, rfl, rfl, trivial⟩ ⟨rfl, rfl, rfl, trivial⟩ rfl)
        · refine X.gN h6 ?_
          refine X.pF h6 ?_
          refine X.nil ?_
          refine ES.seq ?_
          refine VS.condF rfl ?_
          refine VS.exit ?_
          refine ES.thnE ?_
          refine ES.thnE ?_
          refine ES.blkE ?_
          refine ES.blkN ?_
          refine ES.seq ?_
          refine VS.region ?_
          refine X.lk ?_
          refine X.ck fun h22 => ?_
          refine X.lk ?_
          refine X.nil ?_
          exact ES.go ih_again1 ((k1 + 1), out2) (St.le_sub ⟨rfl, rfl, rfl, rfl, rfl, trivial⟩ ⟨rfl, rfl, rfl, trivial⟩ rfl)
      · intro k2 ih_k2
        refine VS.seq ?_
        refine VS.region ?_
        refine X.lk ?_
        refine X.lk ?_
        refine X.lk ?_
        refine X.lk ?_
        refine X.bif (b := (decide (((atD f1.Code k1).Op) = 17))) (fun h23 => ?_) (fun h23 => ?_)
        · refine X.gY h23 ?_
          refine X.lk ?_
          refine X.gY h23 ?_
          refine X.lk ?_
          refine X.gY h23 ?_
          refine X.lk ?_
          refine X.gY h23 ?_
          refine X.lk ?_
          refine X.gY h23 ?_
          refine X.lk ?_
          refine X.pT h23 ?_
          refine X.nil ?_
          refine ES.seq ?_
          refine VS.cond (fun h24 => ?_) (fun h24 => ?_)
          · refine VS.exit ?_
            refine ES.thnE ?_
            refine ES.blkE ?_
            refine ES.seq ?_
            refine VS.region ?_
            refine X.lk ?_
            refine X.ck fun h25 => ?_
            refine X.lk ?_
            refine X.nil ?_
            exact ES.go ih_again1 ((k1 + 1), out1) (St.le_sub ⟨rfl, rfl, rfl, rfl, rfl, trivial⟩ ⟨rfl, rfl, rfl, trivial⟩ rfl)
          · refine VS.skip ?_
            exact ES.jn ih_k2 () (St.le_sub ⟨rfl, rfl, rfl, rfl, rfl, rfl, rfl, rfl, trivial⟩ ⟨rfl, rfl, rfl, rfl, trivial⟩ rfl)
        · refine X.gN h23 ?_
          refine X.gN h23 ?_
          refine X.gN h23 ?_
          refine X.gN h23 ?_
          refine X.gN h23 ?_
          refine X.pF h23 ?_
          refine X.nil ?_
          refine ES.seq ?_
          refine VS.condF rfl ?_
          refine VS.skip ?_
          exact ES.jn ih_k2 () (St.le_sub ⟨rfl, rfl, rfl, rfl, rfl, rfl, rfl, rfl, trivial⟩ ⟨rfl, rfl, rfl, rfl, trivial⟩ rfl)
    · refine VS.exit ?_
      refine ES.thnE ?_
      refine ES.thnE ?_
      refine ES.blkE ?_
      refine ES.seq ?_
      refine VS.seq ?_
      refine VS.region ?_
      refine X.lk ?_
      refine X.lk ?_
      refine X.lk ?_
      refine X.nil ?_
      refine ES.seq ?_
      refine VS.ret ?_
      refine ES.ret ?_
      exact Ret.weak (St.le_tree _ 6 2 rfl rfl) (Ret.clo [.c (.v (.tree (out1.map (sR iRow)))), .c (.v (.int .i64 0))] ⟨rfl, rfl, trivial⟩ trivial)
set_option maxHeartbeats 4000000 in
theorem r18_Graph_ok (f1 : AFunc) (l1 : ALive) : ∀ r : List (List Int) × Int, r18_Graph f1 l1 r → FCalls Try.prog 51 [] [.agg ((row_AFunc f1).map .v), .agg ((row_ALive l1).map .v)] (.tup [.c (.v (.tree (r.1.map (sR iRow)))), .c (.v (.int .i64 r.2))]) [] [] := by
  refine fnS 11 ?_
  unfold r18_Graph
  refine VS.seq ?_
  refine VS.region ?_
  refine X.box 0 ?_
  refine X.box 1 ?_
  refine X.lk ?_
  refine X.lk ?_
  refine X.nil ?_
  refine ES.seq ?_
  refine VS.seq ?_
  refine VS.region ?_
  refine X.lk ?_
  refine X.lk ?_
  refine X.call true [] [] (r18_graph_ok f1 l1 false) (fun x1 => ?_)
  refine X.lk ?_
  refine X.lk ?_
  refine X.lk ?_
  refine X.lk ?_
  refine X.nil ?_
  refine ES.seq ?_
  refine VS.ret ?_
  refine ES.ret ?_
  exact Ret.clo [.c (.v (.tree (x1.1.map (sR iRow)))), .c (.v (.int .i64 x1.2))] ⟨rfl, rfl, trivial⟩ trivial
set_option maxHeartbeats 4000000 in
theorem r18_Moves_ok (f1 : AFunc) : ∀ r : List Arr2Int, r18_Moves f1 r → FCalls Try.prog 38 [] [.agg ((row_AFunc f1).map .v)] (.w (.c (.v (.tree (r.map row_Arr2Int))))) [] [] := by
  refine fnS 58 ?_
  unfold r18_Moves
  refine VS.seq ?_
  refine VS.region ?_
  refine X.box 0 ?_
  refine X.lk ?_
  refine X.nil ?_
  refine ES.seq ?_
  refine VS.seq ?_
  refine VS.region ?_
  refine X.lk ?_
  refine X.nil ?_
  refine ES.seq ?_
  refine VS.seq ?_
  refine VS.seq ?_
  refine VS.region ?_
  refine X.lk ?_
  refine X.nil ?_
  refine ES.seq ?_
  refine VS.block ?_
  refine VS.loop (fun jj : Int × List Arr2Int => (⟨[(1, .w (.c (.ptr 0 0 0))), (3, .w (.c (.mref 1))), (4, .w (.c (.v (.int .i64 jj.1))))], [some (.bx 35 ((row_AFunc f1).map .v)), some (.sl 71 2 false (jj.2.map row_Arr2Int))]⟩ : St)) (j0 := (0, ([] : List Arr2Int))) ((St.le_keep _ [1, 3, 4]).trans ((St.le_adopt _ 3 1 71 2 rfl rfl).trans (St.le_sub ⟨rfl, rfl, rfl, trivial⟩ ⟨rfl, rfl, trivial⟩ rfl))) ?_
  rintro n1 again1 ih_again1 ⟨k1, out1⟩
  refine VS.seq ?_
  refine VS.seq ?_
  refine VS.region ?_
  refine X.lk ?_
  refine X.lk ?_
  refine X.lk ?_
  refine X.lenT ?_
  refine X.lk ?_
  refine X.nil ?_
  refine ES.seq ?_
  refine VS.cond (fun h1 => ?_) (fun h1 => ?_)
  · refine VS.skip ?_
    refine ES.seq ?_
    refine VS.seq ?_
    refine VS.block ?_
    refine VS.seq ?_
    refine VS.region ?_
    refine X.lk ?_
    refine X.lk ?_
    refine X.lk ?_
    refine X.idxT (fun h2 => ?_)
    refine X.lk ?_
    refine X.alloc 2 ?_
    refine X.st ?_
    refine X.nil ?_
    refine ES.seq ?_
    refine VS.seq ?_
    refine VS.region ?_
    refine X.lk ?_
    refine X.lk ?_
    refine X.lk ?_
    refine X.lk ?_
    refine X.buildA ?_
    refine X.alloc 3 ?_
    refine X.st ?_
    refine X.nil ?_
    refine ES.seq ?_
    refine VS.join (fun (old1 : Bool) => (⟨[(1, .w (.c (.ptr 0 0 0))), (3, .w (.c (.mref 1))), (4, .w (.c (.v (.int .i64 k1)))), (6, .w (.c (.ptr 2 0 0))), (7, .w (.c (.v (.bool old1))))], [some (.bx 35 ((row_AFunc f1).map .v)), some (.sl 71 2 false (out1.map row_Arr2Int)), some (.bx 71 [.v (.int .i64 ((atD f1.Code k1).A)), .v (.int .i64 ((atD f1.Code k1).B))])]⟩ : St)) ?_ ?_
    · rintro old1
      refine VS.seq ?_
      refine VS.seq ?_
      refine VS.region ?_
      refine X.lk ?_
      refine X.nil ?_
      refine ES.seq ?_
      refine VS.block ?_
      refine VS.loop (fun jj : Bool × Int => (⟨[(1, .w (.c (.ptr 0 0 0))), (3, .w (.c (.mref 1))), (4, .w (.c (.v (.int .i64 k1)))), (6, .w (.c (.ptr 2 0 0))), (7, .w (.c (.v (.bool jj.1)))), (8, .w (.c (.v (.int .i64 jj.2))))], [some (.bx 35 ((row_AFunc f1).map .v)), some (.sl 71 2 false (out1.map row_Arr2Int)), some (.bx 71 [.v (.int .i64 ((atD f1.Code k1).A)), .v (.int .i64 ((atD f1.Code k1).B))])]⟩ : St)) (j0 := (old1, 0)) (St.le_sub ⟨rfl, rfl, rfl, rfl, rfl, rfl, trivial⟩ ⟨rfl, rfl, rfl, trivial⟩ rfl) ?_
      rintro n2 again2 ih_again2 ⟨old2, i1⟩
      refine VS.seq ?_
      refine VS.seq ?_
      refine VS.region ?_
      refine X.lk ?_
      refine X.lk ?_
      refine X.lenM (l := out1) ?_
      refine X.lk ?_
      refine X.nil ?_
      refine ES.seq ?_
      refine VS.cond (fun h3 => ?_) (fun h3 => ?_)
      · refine VS.skip ?_
        refine ES.seq ?_
        refine VS.seq ?_
        refine VS.block ?_
        refine VS.drawn ?_
        refine X.lk ?_
        refine X.lk ?_
        refine X.bif (b := old2) (fun h4 => ?_) (fun h4 => ?_)
        · refine X.gN h4 ?_
          refine X.gN h4 ?_
          refine X.gN h4 ?_
          refine X.gN h4 ?_
          refine X.gN h4 ?_
          refine X.gN h4 ?_
          refine X.pT h4 ?_
          refine X.lk ?_
          refine X.nilD ?_ (by kernel_rfl)
          refine ES.blkN ?_
          refine ES.seq ?_
          refine VS.region ?_
          refine X.lk ?_
          refine X.ck fun h5 => ?_
          refine X.lk ?_
          refine X.nil ?_
          exact ES.go ih_again2 (true, (i1 + 1)) (St.le_sub ⟨rfl, rfl, rfl, rfl, rfl, rfl, trivial⟩ ⟨rfl, rfl, rfl, trivial⟩ rfl)
        · refine X.gY h4 ?_
          refine X.lk ?_
          refine X.gY h4 ?_
          refine X.lk ?_
          refine X.gY h4 ?_
          refine X.idxM (l := out1) (i := i1) (fun h6 => ?_)
          refine X.gY h4 ?_
          refine X.ld (i := i1) h6 ?_
          refine X.gY h4 ?_
          refine X.lk ?_
          refine X.gY h4 ?_
          refine X.eqA row_Arr2Int (atD out1 i1) (⟨(atD f1.Code k1).A, (atD f1.Code k1).B⟩ : Arr2Int) same_Arr2Int ?_
          refine X.pF h4 ?_
          refine X.lk ?_
          refine X.nilD ?_ (by kernel_rfl)
          refine ES.blkN ?_
          refine ES.seq ?_
          refine VS.region ?_
          refine X.lk ?_
          refine X.ck fun h7 => ?_
          refine X.lk ?_
          refine X.nil ?_
          exact ES.go ih_again2 ((decide ((atD out1 i1) = (⟨(atD f1.Code k1).A, (atD f1.Code k1).B⟩ : Arr2Int))), (i1 + 1)) (St.le_sub ⟨rfl, rfl, rfl, rfl, rfl, rfl, trivial⟩ ⟨rfl, rfl, rfl, trivial⟩ rfl)
      · refine VS.exit ?_
        refine ES.thnE ?_
        refine ES.thnE ?_
        refine ES.blkE ?_
        refine ES.seq ?_
        refine VS.seq ?_
        refine VS.region ?_
        refine X.lk ?_
        refine X.lk ?_
        refine X.nil ?_
        refine ES.seq ?_
        refine VS.cond (fun h8 => ?_) (fun h8 => ?_)
        · refine VS.region ?_
          refine X.lk ?_
          refine X.lk ?_
          refine X.bs 3 ([(⟨(atD f1.Code k1).A, (atD f1.Code k1).B⟩ : Arr2Int)] : List Arr2Int) row_Arr2Int ?_
          refine X.appMM 4 (l := out1) (l' := ([(⟨(atD f1.Code k1).A, (atD f1.Code k1).B⟩ : Arr2Int)] : List Arr2Int)) (fun h9 => ?_)
          refine X.lk ?_
          refine X.nil ?_
          refine ES.blkN ?_
          refine ES.seq ?_
          refine VS.region ?_
          refine X.lk ?_
          refine X.ck fun h10 => ?_
          refine X.lk ?_
          refine X.nil ?_
          exact ES.go ih_again1 ((k1 + 1), (out1 ++ ([(⟨(atD f1.Code k1).A, (atD f1.Code k1).B⟩ : Arr2Int)] : List Arr2Int))) ((St.le_mvB _ 4 1 rfl rfl rfl rfl).trans (St.le_sub ⟨rfl, rfl, rfl, trivial⟩ ⟨rfl, rfl, trivial⟩ rfl))
        · refine VS.skip ?_
          refine ES.blkN ?_
          refine ES.seq ?_
          refine VS.region ?_
          refine X.lk ?_
          refine X.ck fun h11 => ?_
          refine X.lk ?_
          refine X.nil ?_
          exact ES.go ih_again1 ((k1 + 1), out1) (St.le_sub ⟨rfl, rfl, rfl, trivial⟩ ⟨rfl, rfl, trivial⟩ rfl)
    · intro k2 ih_k2
      refine VS.region ?_
      refine X.lk ?_
      refine X.lk ?_
      refine X.lk ?_
      refine X.lk ?_
      refine X.bif (b := (!decide (((atD f1.Code k1).Op) = 17))) (fun h12 => ?_) (fun h12 => ?_)
      · refine X.gN h12 ?_
        refine X.gN h12 ?_
        refine X.gN h12 ?_
        refine X.gN h12 ?_
        refine X.gN h12 ?_
        refine X.pT h12 ?_
        refine X.lk ?_
        refine X.nil ?_
        exact ES.jn ih_k2 true ((St.le_drop _ 2 (Nat.le_of_ble_eq_true rfl)).trans ((St.le_mvB _ 3 2 rfl rfl rfl rfl).trans (St.le_sub ⟨rfl, rfl, rfl, rfl, rfl, trivial⟩ ⟨rfl, rfl, rfl, trivial⟩ rfl)))
      · refine X.gY h12 ?_
        refine X.lk ?_
        refine X.gY h12 ?_
        refine X.lk ?_
        refine X.gY h12 ?_
        refine X.lk ?_
        refine X.gY h12 ?_
        refine X.lk ?_
        refine X.gY h12 ?_
        refine X.lk ?_
        refine X.pF h12 ?_
        refine X.lk ?_
        refine X.nil ?_
        exact ES.jn ih_k2 (decide (((atD f1.Code k1).A) = ((atD f1.Code k1).B))) ((St.le_drop _ 2 (Nat.le_of_ble_eq_true rfl)).trans ((St.le_mvB _ 3 2 rfl rfl rfl rfl).trans (St.le_sub ⟨rfl, rfl, rfl, rfl, rfl, trivial⟩ ⟨rfl, rfl, rfl, trivial⟩ rfl)))
  · refine VS.exit ?_
    refine ES.thnE ?_
    refine ES.thnE ?_
    refine ES.blkE ?_
    refine ES.seq ?_
    refine VS.seq ?_
    refine VS.region ?_
    refine X.lk ?_
    refine X.lk ?_
    refine X.nil ?_
    refine ES.seq ?_
    refine VS.ret ?_
    refine ES.ret ?_
    exact Ret.weak (St.le_tree _ 2 1 rfl rfl) (Ret.clo [.c (.v (.tree (out1.map row_Arr2Int)))] ⟨rfl, trivial⟩ trivial)
set_option maxHeartbeats 4000000 in
theorem r19_Members_ok (to1 : List Int) (s1 : Int) : ∀ r : List Int, r19_Members to1 s1 r → FCalls Try.prog 24 [] [.c (.v (.tree (to1.map iRow))), .c (.v (.int .i64 s1))] (.w (.c (.v (.tree (r.map iRow))))) [] [] := by
  refine fnS 24 ?_
  unfold r19_Members
  refine VS.seq ?_
  refine VS.region ?_
  refine X.lk ?_
  refine X.nil ?_
  refine ES.seq ?_
  refine VS.seq ?_
  refine VS.region ?_
  refine X.lk ?_
  refine X.nil ?_
  refine ES.seq ?_
  refine VS.seq ?_
  refine VS.seq ?_
  refine VS.region ?_
  refine X.lk ?_
  refine X.nil ?_
  refine ES.seq ?_
  refine VS.block ?_
  refine VS.loop (fun jj : Int × List Int => (⟨[(0, .w (.c (.v (.tree (to1.map iRow))))), (1, .w (.c (.v (.int .i64 s1)))), (5, .w (.c (.mref 0))), (6, .w (.c (.v (.int .i64 jj.1))))], [some (.sl 3 1 false (jj.2.map iRow))]⟩ : St)) (j0 := (0, ([] : List Int))) ((St.le_keep _ [0, 1, 5, 6]).trans ((St.le_adopt _ 5 0 3 1 rfl rfl).trans (St.le_sub ⟨rfl, rfl, rfl, rfl, trivial⟩ ⟨rfl, trivial⟩ rfl))) ?_
  rintro n1 again1 ih_again1 ⟨t1, out1⟩
  refine VS.seq ?_
  refine VS.seq ?_
  refine VS.region ?_
  refine X.lk ?_
  refine X.lk ?_
  refine X.lenT ?_
  refine X.lk ?_
  refine X.nil ?_
  refine ES.seq ?_
  refine VS.cond (fun h1 => ?_) (fun h1 => ?_)
  · refine VS.skip ?_
    refine ES.seq ?_
    refine VS.seq ?_
    refine VS.block ?_
    refine VS.seq ?_
    refine VS.region ?_
    refine X.lk ?_
    refine X.lk ?_
    refine X.idxT (fun h2 => ?_)
    refine X.lk ?_
    refine X.lk ?_
    refine X.lk ?_
    refine X.nil ?_
    refine ES.seq ?_
    refine VS.cond (fun h3 => ?_) (fun h3 => ?_)
    · refine VS.region ?_
      refine X.lk ?_
      refine X.lk ?_
      refine X.bs 1 ([t1] : List Int) iRow ?_
      refine X.appMM 2 (l := out1) (l' := ([t1] : List Int)) (fun h4 => ?_)
      refine X.lk ?_
      refine X.nil ?_
      refine ES.blkN ?_
      refine ES.seq ?_
      refine VS.region ?_
      refine X.lk ?_
      refine X.ck fun h5 => ?_
      refine X.lk ?_
      refine X.nil ?_
      exact ES.go ih_again1 ((t1 + 1), (out1 ++ ([t1] : List Int))) ((St.le_mvB _ 2 0 rfl rfl rfl rfl).trans (St.le_sub ⟨rfl, rfl, rfl, rfl, trivial⟩ ⟨rfl, trivial⟩ rfl))
    · refine VS.skip ?_
      refine ES.blkN ?_
      refine ES.seq ?_
      refine VS.region ?_
      refine X.lk ?_
      refine X.ck fun h6 => ?_
      refine X.lk ?_
      refine X.nil ?_
      exact ES.go ih_again1 ((t1 + 1), out1) (St.le_sub ⟨rfl, rfl, rfl, rfl, trivial⟩ ⟨rfl, trivial⟩ rfl)
  · refine VS.exit ?_
    refine ES.thnE ?_
    refine ES.thnE ?_
    refine ES.blkE ?_
    refine ES.seq ?_
    refine VS.seq ?_
    refine VS.region ?_
    refine X.lk ?_
    refine X.lk ?_
    refine X.nil ?_
    refine ES.seq ?_
    refine VS.ret ?_
    refine ES.ret ?_
    exact Ret.weak (St.le_tree _ 4 0 rfl rfl) (Ret.clo [.c (.v (.tree (out1.map iRow)))] ⟨rfl, trivial⟩ trivial)
set_option maxHeartbeats 4000000 in
theorem r19_apart_ok (g1 : List (List Int)) (to1 : List Int) (a1 : Int) (b1 : Int) : ∀ r : Bool, r19_apart g1 to1 a1 b1 r → FCalls Try.prog 70 [] [.c (.v (.tree (g1.map (sR iRow)))), .c (.v (.tree (to1.map iRow))), .c (.v (.int .i64 a1)), .c (.v (.int .i64 b1))] (.w (.c (.v (.bool r)))) [] [] := by
  refine fnS 43 ?_
  unfold r19_apart
  refine VS.seq ?_
  refine VS.region ?_
  refine X.lk ?_
  refine X.nil ?_
  refine ES.seq ?_
  refine VS.seq ?_
  refine VS.region ?_
  refine X.lk ?_
  refine X.lk ?_
  refine X.call true [] [] (r19_Members_ok to1 a1) (fun x1 => ?_)
  refine X.lk ?_
  refine X.lk ?_
  refine X.call true [] [] (r19_Members_ok to1 b1) (fun x2 => ?_)
  refine X.lk ?_
  refine X.lk ?_
  refine X.nil ?_
  refine ES.seq ?_
  refine VS.seq ?_
  refine VS.seq ?_
  refine VS.region ?_
  refine X.lk ?_
  refine X.nil ?_
  refine ES.seq ?_
  refine VS.block ?_
  refine VS.loop (fun (i1 : Int) => (⟨[(0, .w (.c (.v (.tree (g1.map (sR iRow)))))), (9, .w (.c (.v (.tree (x1.map iRow))))), (10, .w (.c (.v (.tree (x2.map iRow))))), (11, .w (.c (.v (.int .i64 i1))))], []⟩ : St)) (j0 := 0) (St.le_sub ⟨rfl, rfl, rfl, rfl, trivial⟩ trivial rfl) ?_
  rintro n1 again1 ih_again1 i1
  refine VS.seq ?_
  refine VS.seq ?_
  refine VS.region ?_
  refine X.lk ?_
  refine X.lk ?_
  refine X.lenT ?_
  refine X.lk ?_
  refine X.nil ?_
  refine ES.seq ?_
  refine VS.cond (fun h1 => ?_) (fun h1 => ?_)
  · refine VS.skip ?_
    refine ES.seq ?_
    refine VS.seq ?_
    refine VS.block ?_
    refine VS.seq ?_
    refine VS.region ?_
    refine X.lk ?_
    refine X.nil ?_
    refine ES.seq ?_
    refine VS.block ?_
    refine VS.loop (fun (k1 : Int) => (⟨[(0, .w (.c (.v (.tree (g1.map (sR iRow)))))), (9, .w (.c (.v (.tree (x1.map iRow))))), (10, .w (.c (.v (.tree (x2.map iRow))))), (11, .w (.c (.v (.int .i64 i1)))), (12, .w (.c (.v (.int .i64 k1))))], []⟩ : St)) (j0 := 0) (St.le_sub ⟨rfl, rfl, rfl, rfl, rfl, trivial⟩ trivial rfl) ?_
    rintro n2 again2 ih_again2 k1
    refine VS.seq ?_
    refine VS.seq ?_
    refine VS.region ?_
    refine X.lk ?_
    refine X.lk ?_
    refine X.lenT ?_
    refine X.lk ?_
    refine X.nil ?_
    refine ES.seq ?_
    refine VS.cond (fun h2 => ?_) (fun h2 => ?_)
    · refine VS.skip ?_
      refine ES.seq ?_
      refine VS.seq ?_
      refine VS.block ?_
      refine VS.seq ?_
      refine VS.drawn ?_
      refine X.lk ?_
      refine X.lk ?_
      refine X.lk ?_
      refine X.idxT (fun h3 => ?_)
      refine X.lk ?_
      refine X.idxT (fun h4 => ?_)
      refine X.lk ?_
      refine X.lk ?_
      refine X.lk ?_
      refine X.idxT (fun h5 => ?_)
      refine X.lk ?_
      refine X.call true [] [] (r04_Has_ok (atD g1 (atD x1 i1)) (atD x2 k1)) (fun x3 => ?_)
      refine X.nilD ?_ (by kernel_rfl)
      refine ES.seq ?_
      refine VS.cond (fun h6 => ?_) (fun h6 => ?_)
      · refine VS.seq ?_
        refine VS.region ?_
        refine X.lk ?_
        refine X.nil ?_
        refine ES.seq ?_
        refine VS.ret ?_
        refine ES.blkR ?_
        refine ES.thnR ?_
        refine ES.thnR ?_
        refine ES.blkR ?_
        refine ES.blkR ?_
        refine ES.thnR ?_
        refine ES.thnR ?_
        refine ES.blkR ?_
        refine ES.thnR ?_
        refine ES.ret ?_
        exact Ret.clo [.c (.v (.bool false))] ⟨rfl, trivial⟩ trivial
      · refine VS.skip ?_
        refine ES.blkN ?_
        refine ES.seq ?_
        refine VS.region ?_
        refine X.lk ?_
        refine X.ck fun h7 => ?_
        refine X.lk ?_
        refine X.nil ?_
        exact ES.go ih_again2 (k1 + 1) (St.le_sub ⟨rfl, rfl, rfl, rfl, rfl, trivial⟩ trivial rfl)
    · refine VS.exit ?_
      refine ES.thnE ?_
      refine ES.thnE ?_
      refine ES.blkE ?_
      refine ES.blkN ?_
      refine ES.seq ?_
      refine VS.region ?_
      refine X.lk ?_
      refine X.ck fun h8 => ?_
      refine X.lk ?_
      refine X.nil ?_
      exact ES.go ih_again1 (i1 + 1) (St.le_sub ⟨rfl, rfl, rfl, rfl, trivial⟩ trivial rfl)
  · refine VS.exit ?_
    refine ES.thnE ?_
    refine ES.thnE ?_
    refine ES.blkE ?_
    refine ES.seq ?_
    refine VS.seq ?_
    refine VS.region ?_
    refine X.lk ?_
    refine X.nil ?_
    refine ES.seq ?_
    refine VS.ret ?_
    refine ES.ret ?_
    exact Ret.clo [.c (.v (.bool true))] ⟨rfl, trivial⟩ trivial
set_option maxHeartbeats 4000000 in
theorem r19_Classes_ok (f1 : AFunc) (g1 : List (List Int)) : ∀ r : List Int, r19_Classes f1 g1 r → FCalls Try.prog 37 [] [.agg ((row_AFunc f1).map .v), .c (.v (.tree (g1.map (sR iRow))))] (.w (.c (.v (.tree (r.map iRow))))) [] [] := by
  refine fnS 85 ?_
  unfold r19_Classes
  refine VS.seq ?_
  refine VS.region ?_
  refine X.box 0 ?_
  refine X.lk ?_
  refine X.nil ?_
  refine ES.seq ?_
  refine VS.seq ?_
  refine VS.region ?_
  refine X.lk ?_
  refine X.nil ?_
  refine ES.seq ?_
  refine VS.seq ?_
  refine VS.seq ?_
  refine VS.region ?_
  refine X.lk ?_
  refine X.nil ?_
  refine ES.seq ?_
  refine VS.block ?_
  refine VS.loop (fun jj : Int × List Int => (⟨[(1, .w (.c (.v (.tree (g1.map (sR iRow)))))), (2, .w (.c (.ptr 0 0 0))), (5, .w (.c (.mref 1))), (6, .w (.c (.v (.int .i64 jj.1))))], [some (.bx 35 ((row_AFunc f1).map .v)), some (.sl 3 1 false (jj.2.map iRow))]⟩ : St)) (j0 := (0, ([] : List Int))) ((St.le_keep _ [1, 2, 5, 6]).trans ((St.le_adopt _ 5 1 3 1 rfl rfl).trans (St.le_sub ⟨rfl, rfl, rfl, rfl, trivial⟩ ⟨rfl, rfl, trivial⟩ rfl))) ?_
  rintro n1 again1 ih_again1 ⟨s1, to1⟩
  refine VS.seq ?_
  refine VS.seq ?_
  refine VS.region ?_
  refine X.lk ?_
  refine X.lk ?_
  refine X.lk ?_
  refine X.lenT ?_
  refine X.lk ?_
  refine X.nil ?_
  refine ES.seq ?_
  refine VS.cond (fun h1 => ?_) (fun h1 => ?_)
  · refine VS.skip ?_
    refine ES.seq ?_
    refine VS.seq ?_
    refine VS.block ?_
    refine VS.region ?_
    refine X.lk ?_
    refine X.lk ?_
    refine X.bs 2 ([s1] : List Int) iRow ?_
    refine X.appMM 3 (l := to1) (l' := ([s1] : List Int)) (fun h2 => ?_)
    refine X.lk ?_
    refine X.nil ?_
    refine ES.blkN ?_
    refine ES.seq ?_
    refine VS.region ?_
    refine X.lk ?_
    refine X.ck fun h3 => ?_
    refine X.lk ?_
    refine X.nil ?_
    exact ES.go ih_again1 ((s1 + 1), (to1 ++ ([s1] : List Int))) ((St.le_mvB _ 3 1 rfl rfl rfl rfl).trans (St.le_sub ⟨rfl, rfl, rfl, rfl, trivial⟩ ⟨rfl, rfl, trivial⟩ rfl))
  · refine VS.exit ?_
    refine ES.thnE ?_
    refine ES.thnE ?_
    refine ES.blkE ?_
    refine ES.seq ?_
    refine VS.seq ?_
    refine VS.region ?_
    refine X.lk ?_
    refine X.call true [] [] (r18_Moves_ok f1) (fun x1 => ?_)
    refine X.lk ?_
    refine X.nil ?_
    refine ES.seq ?_
    refine VS.seq ?_
    refine VS.seq ?_
    refine VS.region ?_
    refine X.lk ?_
    refine X.nil ?_
    refine ES.seq ?_
    refine VS.block ?_
    refine VS.loop (fun jj : Int × List Int => (⟨[(1, .w (.c (.v (.tree (g1.map (sR iRow)))))), (5, .w (.c (.mref 0))), (7, .w (.c (.v (.tree (x1.map row_Arr2Int))))), (8, .w (.c (.v (.int .i64 jj.1))))], [some (.sl 3 1 false (jj.2.map iRow))]⟩ : St)) (j0 := (0, to1)) ((St.le_drop _ 0 (Nat.le_of_ble_eq_true rfl)).trans ((St.le_mvB _ 1 0 rfl rfl rfl rfl).trans (St.le_sub ⟨rfl, rfl, rfl, rfl, trivial⟩ ⟨rfl, trivial⟩ rfl))) ?_
    rintro n2 again2 ih_again2 ⟨i1, to2⟩
    refine VS.seq ?_
    refine VS.seq ?_
    refine VS.region ?_
    refine X.lk ?_
    refine X.lk ?_
    refine X.lenT ?_
    refine X.lk ?_
    refine X.nil ?_
    refine ES.seq ?_
    refine VS.cond (fun h4 => ?_) (fun h4 => ?_)
    · refine VS.skip ?_
      refine ES.seq ?_
      refine VS.seq ?_
      refine VS.block ?_
      refine VS.seq ?_
      refine VS.drawn ?_
      refine X.lk ?_
      refine X.lk ?_
      refine X.lk ?_
      refine X.idxT (fun h5 => ?_)
      refine X.idxAT 0 ?_
      refine X.lk ?_
      refine X.idxM (l := to2) (i := (atD x1 i1).e0) (fun h6 => ?_)
      refine X.ld (i := (atD x1 i1).e0) h6 ?_
      refine X.lk ?_
      refine X.lk ?_
      refine X.lk ?_
      refine X.idxT (fun h7 => ?_)
      refine X.idxAT 1 ?_
      refine X.lk ?_
      refine X.idxM (l := to2) (i := (atD x1 i1).e1) (fun h8 => ?_)
      refine X.ld (i := (atD x1 i1).e1) h8 ?_
      refine X.lk ?_
      refine X.lk ?_
      refine X.nilD ?_ (by kernel_rfl)
      refine ES.seq ?_
      refine VS.seq ?_
      refine VS.seq ?_
      refine VS.region ?_
      refine X.lk ?_
      refine X.lk ?_
      refine X.lk ?_
      refine X.lk ?_
      refine X.bif (b := (decide ((atD to2 ((atD x1 i1).e0)) = (atD to2 ((atD x1 i1).e1))))) (fun h9 => ?_) (fun h9 => ?_)
      · refine X.gN h9 ?_
        refine X.gN h9 ?_
        refine X.gN h9 ?_
        refine X.gN h9 ?_
        refine X.gN h9 ?_
        refine X.gN h9 ?_
        refine X.pT h9 ?_
        refine X.nil ?_
        refine ES.seq ?_
        refine VS.condT rfl ?_
        refine VS.exit ?_
        refine ES.thnE ?_
        refine ES.blkE ?_
        refine ES.seq ?_
        refine VS.region ?_
        refine X.lk ?_
        refine X.ck fun h10 => ?_
        refine X.lk ?_
        refine X.nil ?_
        exact ES.go ih_again2 ((i1 + 1), to2) (St.le_sub ⟨rfl, rfl, rfl, rfl, trivial⟩ ⟨rfl, trivial⟩ rfl)
      · refine X.gY h9 ?_
        refine X.lk ?_
        refine X.gY h9 ?_
        refine X.lk ?_
        refine X.gY h9 ?_
        refine X.lk ?_
        refine X.gY h9 ?_
        refine X.lk ?_
        refine X.gY h9 ?_
        refine X.call false [(0, .sl 3 1 false (to2.map iRow))] [] (r19_apart_ok g1 to2 (atD to2 ((atD x1 i1).e0)) (atD to2 ((atD x1 i1).e1))) (fun x2 => ?_) (hn := ⟨rfl, trivial⟩) (hsc := .inr ⟨rfl, fun _ => rfl⟩)
        refine X.gY h9 ?_
        refine X.lk ?_
        refine X.pF h9 ?_
        refine X.nil ?_
        refine ES.seq ?_
        refine VS.cond (fun h11 => ?_) (fun h11 => ?_)
        · refine VS.exit ?_
          refine ES.thnE ?_
          refine ES.blkE ?_
          refine ES.seq ?_
          refine VS.region ?_
          refine X.lk ?_
          refine X.ck fun h12 => ?_
          refine X.lk ?_
          refine X.nil ?_
          exact ES.go ih_again2 ((i1 + 1), to2) (St.le_sub ⟨rfl, rfl, rfl, rfl, trivial⟩ ⟨rfl, trivial⟩ rfl)
        · refine VS.skip ?_
          refine ES.seq ?_
          refine VS.seq ?_
          refine VS.region ?_
          refine X.lk ?_
          refine X.nil ?_
          refine ES.seq ?_
          refine VS.block ?_
          refine VS.loop (fun jj : Int × List Int => (⟨[(1, .w (.c (.v (.tree (g1.map (sR iRow)))))), (5, .w (.c (.mref 0))), (7, .w (.c (.v (.tree (x1.map row_Arr2Int))))), (8, .w (.c (.v (.int .i64 i1)))), (9, .w (.c (.v (.int .i64 (atD to2 ((atD x1 i1).e0)))))), (10, .w (.c (.v (.int .i64 (atD to2 ((atD x1 i1).e1)))))), (11, .w (.c (.v (.int .i64 jj.1)))), (51, .w (.c (.v (.tree (g1.map (sR iRow)))))), (52, .w (.c (.mref 0))), (53, .w (.c (.v (.int .i64 (atD to2 ((atD x1 i1).e0)))))), (54, .w (.c (.v (.int .i64 (atD to2 ((atD x1 i1).e1)))))), (55, .w (.c (.v (.bool x2)))), (56, .w (.c (.v (.bool (!x2)))))], [some (.sl 3 1 false (jj.2.map iRow))]⟩ : St)) (j0 := (0, to2)) (St.le_sub ⟨rfl, rfl, rfl, rfl, rfl, rfl, rfl, rfl, rfl, rfl, rfl, rfl, rfl, trivial⟩ ⟨rfl, trivial⟩ rfl) ?_
          rintro n3 again3 ih_again3 ⟨s2, to3⟩
          refine VS.seq ?_
          refine VS.seq ?_
          refine VS.region ?_
          refine X.lk ?_
          refine X.lk ?_
          refine X.lenM (l := to3) ?_
          refine X.lk ?_
          refine X.nil ?_
          refine ES.seq ?_
          refine VS.cond (fun h13 => ?_) (fun h13 => ?_)
          · refine VS.skip ?_
            refine ES.seq ?_
            refine VS.seq ?_
            refine VS.block ?_
            refine VS.seq ?_
            refine VS.region ?_
            refine X.lk ?_
            refine X.lk ?_
            refine X.idxM (l := to3) (i := s2) (fun h14 => ?_)
            refine X.ld (i := s2) h14 ?_
            refine X.lk ?_
            refine X.lk ?_
            refine X.lk ?_
            refine X.bif (b := (decide ((atD to3 s2) = (atD to2 ((atD x1 i1).e0))))) (fun h15 => ?_) (fun h15 => ?_)
            · refine X.gN h15 ?_
              refine X.gN h15 ?_
              refine X.gN h15 ?_
              refine X.gN h15 ?_
              refine X.gN h15 ?_
              refine X.gN h15 ?_
              refine X.pT h15 ?_
              refine X.nil ?_
              refine ES.seq ?_
              refine VS.condT rfl ?_
              refine VS.region ?_
              refine X.lk ?_
              refine X.lk ?_
              refine X.lk ?_
              refine X.lk ?_
              refine X.min ?_
              refine X.idxM (l := to3) (i := s2) (fun h16 => ?_)
              refine X.set (i := s2) (min (atD to2 ((atD x1 i1).e0)) (atD to2 ((atD x1 i1).e1))) h16 ?_
              refine X.nil ?_
              refine ES.blkN ?_
              refine ES.seq ?_
              refine VS.region ?_
              refine X.lk ?_
              refine X.ck fun h17 => ?_
              refine X.lk ?_
              refine X.nil ?_
              exact ES.go ih_again3 ((s2 + 1), (setD to3 s2 (min (atD to2 ((atD x1 i1).e0)) (atD to2 ((atD x1 i1).e1))))) (St.le_sub ⟨rfl, rfl, rfl, rfl, rfl, rfl, rfl, rfl, rfl, rfl, rfl, rfl, rfl, trivial⟩ ⟨rfl, trivial⟩ rfl)
            · refine X.gY h15 ?_
              refine X.lk ?_
              refine X.gY h15 ?_
              refine X.lk ?_
              refine X.gY h15 ?_
              refine X.idxM (l := to3) (i := s2) (fun h18 => ?_)
              refine X.gY h15 ?_
              refine X.ld (i := s2) h18 ?_
              refine X.gY h15 ?_
              refine X.lk ?_
              refine X.gY h15 ?_
              refine X.lk ?_
              refine X.pF h15 ?_
              refine X.nil ?_
              refine ES.seq ?_
              refine VS.cond (fun h19 => ?_) (fun h19 => ?_)
              · refine VS.region ?_
                refine X.lk ?_
                refine X.lk ?_
                refine X.lk ?_
                refine X.lk ?_
                refine X.min ?_
                refine X.idxM (l := to3) (i := s2) (fun h20 => ?_)
                refine X.set (i := s2) (min (atD to2 ((atD x1 i1).e0)) (atD to2 ((atD x1 i1).e1))) h20 ?_
                refine X.nil ?_
                refine ES.blkN ?_
                refine ES.seq ?_
                refine VS.region ?_
                refine X.lk ?_
                refine X.ck fun h21 => ?_
                refine X.lk ?_
                refine X.nil ?_
                exact ES.go ih_again3 ((s2 + 1), (setD to3 s2 (min (atD to2 ((atD x1 i1).e0)) (atD to2 ((atD x1 i1).e1))))) (St.le_sub ⟨rfl, rfl, rfl, rfl, rfl, rfl, rfl, rfl, rfl, rfl, rfl, rfl, rfl, trivial⟩ ⟨rfl, trivial⟩ rfl)
              · refine VS.skip ?_
                refine ES.blkN ?_
                refine ES.seq ?_
                refine VS.region ?_
                refine X.lk ?_
                refine X.ck fun h22 => ?_
                refine X.lk ?_
                refine X.nil ?_
                exact ES.go ih_again3 ((s2 + 1), to3) (St.le_sub ⟨rfl, rfl, rfl, rfl, rfl, rfl, rfl, rfl, rfl, rfl, rfl, rfl, rfl, trivial⟩ ⟨rfl, trivial⟩ rfl)
          · refine VS.exit ?_
            refine ES.thnE ?_
            refine ES.thnE ?_
            refine ES.blkE ?_
            refine ES.blkN ?_
            refine ES.seq ?_
            refine VS.region ?_
            refine X.lk ?_
            refine X.ck fun h23 => ?_
            refine X.lk ?_
            refine X.nil ?_
            exact ES.go ih_again2 ((i1 + 1), to3) (St.le_sub ⟨rfl, rfl, rfl, rfl, trivial⟩ ⟨rfl, trivial⟩ rfl)
    · refine VS.exit ?_
      refine ES.thnE ?_
      refine ES.thnE ?_
      refine ES.blkE ?_
      refine ES.seq ?_
      refine VS.seq ?_
      refine VS.region ?_
      refine X.lk ?_
      refine X.lk ?_
      refine X.nil ?_
      refine ES.seq ?_
      refine VS.ret ?_
      refine ES.ret ?_
      exact Ret.weak (St.le_tree _ 4 0 rfl rfl) (Ret.clo [.c (.v (.tree (to2.map iRow)))] ⟨rfl, trivial⟩ trivial)
set_option maxHeartbeats 4000000 in
theorem r20_dead_ok (f1 : AFunc) (l1 : ALive) (k1 : Int) : ∀ r : Bool, r20_dead f1 l1 k1 r → FCalls Try.prog 114 [] [.agg ((row_AFunc f1).map .v), .agg ((row_ALive l1).map .v), .c (.v (.int .i64 k1))] (.w (.c (.v (.bool r)))) [] [] := by
  refine fnS 29 ?_
  unfold r20_dead
  refine VS.seq ?_
  refine VS.region ?_
  refine X.box 0 ?_
  refine X.box 1 ?_
  refine X.lk ?_
  refine X.nil ?_
  refine ES.seq ?_
  refine VS.seq ?_
  refine VS.region ?_
  refine X.lk ?_
  refine X.lk ?_
  refine X.lk ?_
  refine X.idxT (fun h1 => ?_)
  refine X.lk ?_
  refine X.call true [] [] (r15_Defines_ok (atD f1.Code k1)) (fun x1 => ?_)
  refine X.lk ?_
  refine X.lk ?_
  refine X.lk ?_
  refine X.lk ?_
  refine X.lk ?_
  refine X.nil ?_
  refine ES.seq ?_
  refine VS.seq ?_
  refine VS.region ?_
  refine X.lk ?_
  refine X.lk ?_
  refine X.bif (b := x1.2) (fun h2 => ?_) (fun h2 => ?_)
  · refine X.gY h2 ?_
    refine X.lk ?_
    refine X.gY h2 ?_
    refine X.lk ?_
    refine X.gY h2 ?_
    refine X.lk ?_
    refine X.gY h2 ?_
    refine X.idxT (fun h3 => ?_)
    refine X.gY h2 ?_
    refine X.lk ?_
    refine X.gY h2 ?_
    refine X.lk ?_
    refine X.gY h2 ?_
    refine X.call true [] [] (r04_Has_ok (atD l1.Out k1) x1.1) (fun x2 => ?_)
    refine X.gY h2 ?_
    refine X.lk ?_
    refine X.pT h2 ?_
    refine X.lk ?_
    refine X.nil ?_
    refine ES.seq ?_
    refine VS.ret ?_
    refine ES.ret ?_
    exact Ret.clo [.c (.v (.bool (!x2)))] ⟨rfl, trivial⟩ trivial
  · refine X.gN h2 ?_
    refine X.gN h2 ?_
    refine X.gN h2 ?_
    refine X.gN h2 ?_
    refine X.gN h2 ?_
    refine X.gN h2 ?_
    refine X.gN h2 ?_
    refine X.gN h2 ?_
    refine X.pF h2 ?_
    refine X.lk ?_
    refine X.nil ?_
    refine ES.seq ?_
    refine VS.ret ?_
    refine ES.ret ?_
    exact Ret.clo [.c (.v (.bool false))] ⟨rfl, trivial⟩ trivial
end Go.Proofs.Ytbppgdffochdmaa.Q
