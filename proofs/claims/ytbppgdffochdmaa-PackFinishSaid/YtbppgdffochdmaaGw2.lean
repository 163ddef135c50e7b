/- Walks of functions: the code does what the lifted text says (written by a program). -/
import Derived.Test.YtbppgdffochdmaaGw1
set_option linter.unusedVariables false
set_option linter.unusedSimpArgs false
set_option maxRecDepth 8000
namespace Go.Proofs.Ytbppgdffochdmaa.Q
open Go.RowKit
set_option maxHeartbeats 4000000 in
theorem draw_function_ok (c1 : DCodes) (i1 : Int) (params1 : List Int) (most1 : Int) : ∀ r : AFunc × DCodes, draw_function c1 i1 params1 most1 r → FCalls Try.prog 87 [(105, row_DCodes c1)] [.c (.ptr 0 0 0), .c (.v (.int .i64 i1)), .c (.v (.tree (params1.map iRow))), .c (.v (.int .i64 most1))] (.w (.agg ((row_AFunc r.1).map .v))) [] [(105, row_DCodes r.2)] := by
  refine fnS 150 ?_
  unfold draw_function
  refine VS.seq ?_
  refine VS.region ?_
  refine X.alloc 1 ?_
  refine X.nil ?_
  refine ES.seq ?_
  refine VS.seq ?_
  refine VS.drawn ?_
  refine X.lk ?_
  refine X.lk ?_
  refine X.idxT (fun h1 => ?_)
  refine X.lk ?_
  refine X.lk ?_
  refine X.call true [] [0] (draw_Slots_ok c1 6) (fun x1 => ?_) (hn := ⟨rfl, trivial⟩)
  refine X.build ?_
  refine X.alloc 2 ?_
  refine X.st ?_
  refine X.nilD ?_ (by kernel_rfl)
  refine ES.seq ?_
  refine VS.seq ?_
  refine VS.region ?_
  refine X.lk ?_
  refine X.nil ?_
  refine ES.seq ?_
  refine VS.seq ?_
  refine VS.seq ?_
  refine VS.region ?_
  refine X.lk ?_
  refine X.nil ?_
  refine ES.seq ?_
  refine VS.block ?_
  refine VS.loop (fun jj : Int × DCodes × List AInstr => (⟨[(0, .w (.c (.ptr 0 0 0))), (1, .w (.c (.v (.int .i64 i1)))), (2, .w (.c (.v (.tree (params1.map iRow))))), (3, .w (.c (.v (.int .i64 most1)))), (8, .w (.c (.ptr 1 0 0))), (9, .w (.c (.ptr 2 0 0))), (10, .w (.c (.mref 3))), (11, .w (.c (.v (.int .i64 jj.1))))], [some (.bx 105 ((row_DCodes jj.2.1).map .v)), some (.bx 35 [.v (.int .i64 0), .v (.tree (([] : List ASlot).map row_ASlot)), .v (.tree (([] : List AInstr).map row_AInstr))]), some (.bx 35 [.v (.int .i64 (atD params1 i1)), .v (.tree (x1.1.map row_ASlot)), .v (.tree (([] : List AInstr).map row_AInstr))]), some (.sl 66 5 false (jj.2.2.map row_AInstr))]⟩ : St)) (j0 := (0, x1.2, ([] : List AInstr))) ((St.le_keep _ [0, 1, 2, 3, 8, 9, 10, 11]).trans ((St.le_adopt _ 10 3 66 5 rfl rfl).trans (St.le_sub ⟨rfl, rfl, rfl, rfl, rfl, rfl, rfl, rfl, trivial⟩ ⟨rfl, rfl, rfl, rfl, trivial⟩ rfl))) ?_
  rintro n1 again1 ih_again1 ⟨s1, c2, code1⟩
  refine VS.seq ?_
  refine VS.seq ?_
  refine VS.region ?_
  refine X.lk ?_
  refine X.lk ?_
  refine X.lk ?_
  refine X.lenT ?_
  refine X.lk ?_
  refine X.nil ?_
  refine ES.seq ?_
  refine VS.cond (fun h2 => ?_) (fun h2 => ?_)
  · refine VS.skip ?_
    refine ES.seq ?_
    refine VS.seq ?_
    refine VS.block ?_
    refine VS.seq ?_
    refine VS.region ?_
    refine X.lk ?_
    refine X.call true [] [0] (draw_Next_ok c2 4) (fun x2 => ?_) (hn := ⟨rfl, trivial⟩)
    refine X.lk ?_
    refine X.nil ?_
    refine ES.seq ?_
    refine VS.cond (fun h3 => ?_) (fun h3 => ?_)
    · refine VS.region ?_
      refine X.lk ?_
      refine X.lk ?_
      refine X.lk ?_
      refine X.call true [] [0] (draw_Next_ok x2.2 4) (fun x3 => ?_) (hn := ⟨rfl, trivial⟩)
      refine X.build ?_
      refine X.bs 4 ([(⟨16, s1, x3.1, 0, 0⟩ : AInstr)] : List AInstr) row_AInstr ?_
      refine X.appMM 5 (l := code1) (l' := ([(⟨16, s1, x3.1, 0, 0⟩ : AInstr)] : List AInstr)) (fun h4 => ?_)
      refine X.lk ?_
      refine X.nil ?_
      refine ES.blkN ?_
      refine ES.seq ?_
      refine VS.region ?_
      refine X.lk ?_
      refine X.ck fun h5 => ?_
      refine X.lk ?_
      refine X.nil ?_
      exact ES.go ih_again1 ((s1 + 1), x3.2, (code1 ++ ([(⟨16, s1, x3.1, 0, 0⟩ : AInstr)] : List AInstr))) ((St.le_mvB _ 5 3 rfl rfl rfl rfl).trans (St.le_sub ⟨rfl, rfl, rfl, rfl, rfl, rfl, rfl, rfl, trivial⟩ ⟨rfl, rfl, rfl, rfl, trivial⟩ rfl))
    · refine VS.skip ?_
      refine ES.blkN ?_
      refine ES.seq ?_
      refine VS.region ?_
      refine X.lk ?_
      refine X.ck fun h6 => ?_
      refine X.lk ?_
      refine X.nil ?_
      exact ES.go ih_again1 ((s1 + 1), x2.2, code1) (St.le_sub ⟨rfl, rfl, rfl, rfl, rfl, rfl, rfl, rfl, trivial⟩ ⟨rfl, rfl, rfl, rfl, trivial⟩ rfl)
  · refine VS.exit ?_
    refine ES.thnE ?_
    refine ES.thnE ?_
    refine ES.blkE ?_
    refine ES.seq ?_
    refine VS.seq ?_
    refine VS.seq ?_
    refine VS.region ?_
    refine X.lk ?_
    refine X.lk ?_
    refine X.ck fun h7 => ?_
    refine X.call true [] [0] (draw_Next_ok c2 (most1 + 1)) (fun x4 => ?_) (hn := ⟨rfl, trivial⟩)
    refine X.lk ?_
    refine X.nil ?_
    refine ES.seq ?_
    refine VS.block ?_
    refine VS.loop (fun jj : Int × DCodes × List AInstr => (⟨[(0, .w (.c (.ptr 0 0 0))), (1, .w (.c (.v (.int .i64 i1)))), (2, .w (.c (.v (.tree (params1.map iRow))))), (8, .w (.c (.ptr 1 0 0))), (9, .w (.c (.ptr 2 0 0))), (10, .w (.c (.mref 3))), (12, .w (.c (.v (.int .i64 jj.1))))], [some (.bx 105 ((row_DCodes jj.2.1).map .v)), some (.bx 35 [.v (.int .i64 0), .v (.tree (([] : List ASlot).map row_ASlot)), .v (.tree (([] : List AInstr).map row_AInstr))]), some (.bx 35 [.v (.int .i64 (atD params1 i1)), .v (.tree (x1.1.map row_ASlot)), .v (.tree (([] : List AInstr).map row_AInstr))]), some (.sl 66 5 false (jj.2.2.map row_AInstr))]⟩ : St)) (j0 := (x4.1, x4.2, code1)) (St.le_sub ⟨rfl, rfl, rfl, rfl, rfl, rfl, rfl, trivial⟩ ⟨rfl, rfl, rfl, rfl, trivial⟩ rfl) ?_
    rintro n3 again2 ih_again2 ⟨n2, c3, code2⟩
    refine VS.seq ?_
    refine VS.seq ?_
    refine VS.region ?_
    refine X.lk ?_
    refine X.lk ?_
    refine X.nil ?_
    refine ES.seq ?_
    refine VS.cond (fun h8 => ?_) (fun h8 => ?_)
    · refine VS.skip ?_
      refine ES.seq ?_
      refine VS.seq ?_
      refine VS.block ?_
      refine VS.seq ?_
      refine VS.region ?_
      refine X.lk ?_
      refine X.lk ?_
      refine X.lk ?_
      refine X.lk ?_
      refine X.lk ?_
      refine X.call true [] [0] (draw_body_ok c3 (⟨(atD params1 i1), x1.1, ([] : List AInstr)⟩ : AFunc) i1 params1) (fun x5 => ?_) (hn := ⟨rfl, trivial⟩)
      refine X.appMT 4 (l := code2) (l' := x5.1) (fun h9 => ?_)
      refine X.lk ?_
      refine X.nil ?_
      refine ES.seq ?_
      refine VS.seq ?_
      refine VS.region ?_
      refine X.lk ?_
      refine X.call true [] [0] (draw_Next_ok x5.2 9) (fun x6 => ?_) (hn := ⟨rfl, trivial⟩)
      refine X.nil ?_
      refine ES.seq ?_
      refine VS.block ?_
      refine VS.seq ?_
      refine VS.region ?_
      refine X.lk ?_
      refine X.lk ?_
      refine X.nil ?_
      refine ES.seq ?_
      refine VS.cond (fun h10 => ?_) (fun h10 => ?_)
      · refine VS.region ?_
        refine X.lk ?_
        refine X.lk ?_
        refine X.call true [] [0] (draw_Next_ok x6.2 4) (fun x7 => ?_) (hn := ⟨rfl, trivial⟩)
        refine X.build ?_
        refine X.bs 5 ([(⟨21, x7.1, (-1), 0, 0⟩ : AInstr)] : List AInstr) row_AInstr ?_
        refine X.appMM 6 (l := (code2 ++ x5.1)) (l' := ([(⟨21, x7.1, (-1), 0, 0⟩ : AInstr)] : List AInstr)) (fun h11 => ?_)
        refine X.lk ?_
        refine X.nil ?_
        refine ES.blkN ?_
        refine ES.blkN ?_
        refine ES.seq ?_
        refine VS.region ?_
        refine X.lk ?_
        refine X.ck fun h12 => ?_
        refine X.lk ?_
        refine X.nil ?_
        exact ES.go ih_again2 ((n2 - 1), x7.2, ((code2 ++ x5.1) ++ ([(⟨21, x7.1, (-1), 0, 0⟩ : AInstr)] : List AInstr))) ((St.le_mvB _ 6 3 rfl rfl rfl rfl).trans (St.le_sub ⟨rfl, rfl, rfl, rfl, rfl, rfl, rfl, trivial⟩ ⟨rfl, rfl, rfl, rfl, trivial⟩ rfl))
      · refine VS.seq ?_
        refine VS.region ?_
        refine X.lk ?_
        refine X.lk ?_
        refine X.nil ?_
        refine ES.seq ?_
        refine VS.cond (fun h13 => ?_) (fun h13 => ?_)
        · refine VS.seq ?_
          refine VS.region ?_
          refine X.lk ?_
          refine X.call true [] [0] (draw_Next_ok x6.2 3) (fun x8 => ?_) (hn := ⟨rfl, trivial⟩)
          refine X.lk ?_
          refine X.nil ?_
          refine ES.seq ?_
          refine VS.cond (fun h14 => ?_) (fun h14 => ?_)
          · refine VS.region ?_
            refine X.lk ?_
            refine X.build ?_
            refine X.bs 5 ([(⟨20, (-1), 0, 0, 0⟩ : AInstr)] : List AInstr) row_AInstr ?_
            refine X.appMM 6 (l := (code2 ++ x5.1)) (l' := ([(⟨20, (-1), 0, 0, 0⟩ : AInstr)] : List AInstr)) (fun h15 => ?_)
            refine X.lk ?_
            refine X.nil ?_
            refine ES.blkN ?_
            refine ES.blkN ?_
            refine ES.seq ?_
            refine VS.region ?_
            refine X.lk ?_
            refine X.ck fun h16 => ?_
            refine X.lk ?_
            refine X.nil ?_
            exact ES.go ih_again2 ((n2 - 1), x8.2, ((code2 ++ x5.1) ++ ([(⟨20, (-1), 0, 0, 0⟩ : AInstr)] : List AInstr))) ((St.le_mvB _ 6 3 rfl rfl rfl rfl).trans (St.le_sub ⟨rfl, rfl, rfl, rfl, rfl, rfl, rfl, trivial⟩ ⟨rfl, rfl, rfl, rfl, trivial⟩ rfl))
          · refine VS.skip ?_
            refine ES.blkN ?_
            refine ES.blkN ?_
            refine ES.seq ?_
            refine VS.region ?_
            refine X.lk ?_
            refine X.ck fun h17 => ?_
            refine X.lk ?_
            refine X.nil ?_
            exact ES.go ih_again2 ((n2 - 1), x8.2, (code2 ++ x5.1)) ((St.le_mvB _ 4 3 rfl rfl rfl rfl).trans (St.le_sub ⟨rfl, rfl, rfl, rfl, rfl, rfl, rfl, trivial⟩ ⟨rfl, rfl, rfl, rfl, trivial⟩ rfl))
        · refine VS.skip ?_
          refine ES.blkN ?_
          refine ES.blkN ?_
          refine ES.seq ?_
          refine VS.region ?_
          refine X.lk ?_
          refine X.ck fun h18 => ?_
          refine X.lk ?_
          refine X.nil ?_
          exact ES.go ih_again2 ((n2 - 1), x6.2, (code2 ++ x5.1)) ((St.le_mvB _ 4 3 rfl rfl rfl rfl).trans (St.le_sub ⟨rfl, rfl, rfl, rfl, rfl, rfl, rfl, trivial⟩ ⟨rfl, rfl, rfl, rfl, trivial⟩ rfl))
    · refine VS.exit ?_
      refine ES.thnE ?_
      refine ES.thnE ?_
      refine ES.blkE ?_
      refine ES.seq ?_
      refine VS.seq ?_
      refine VS.region ?_
      refine X.build ?_
      refine X.alloc 4 ?_
      refine X.st ?_
      refine X.nil ?_
      refine ES.seq ?_
      refine VS.join (fun jj : DCodes × Int × Int => (⟨[(0, .w (.c (.ptr 0 0 0))), (8, .w (.c (.ptr 1 0 0))), (9, .w (.c (.ptr 2 0 0))), (10, .w (.c (.mref 3))), (13, .w (.c (.ptr 4 0 0)))], [some (.bx 105 ((row_DCodes jj.1).map .v)), some (.bx 35 [.v (.int .i64 0), .v (.tree (([] : List ASlot).map row_ASlot)), .v (.tree (([] : List AInstr).map row_AInstr))]), some (.bx 35 [.v (.int .i64 (atD params1 i1)), .v (.tree (x1.1.map row_ASlot)), .v (.tree (([] : List AInstr).map row_AInstr))]), some (.sl 66 5 false (code2.map row_AInstr)), some (.bx 66 [.v (.int .i64 jj.2.1), .v (.int .i64 0), .v (.int .i64 0), .v (.int .i64 0), .v (.int .u64 jj.2.2)])]⟩ : St)) ?_ ?_
      · rintro ⟨c4, Op1, Imm1⟩
        refine VS.seq ?_
        refine VS.region ?_
        refine X.lk ?_
        refine X.lk ?_
        refine X.bs 5 ([(⟨Op1, 0, 0, 0, Imm1⟩ : AInstr)] : List AInstr) row_AInstr ?_
        refine X.appMM 6 (l := code2) (l' := ([(⟨Op1, 0, 0, 0, Imm1⟩ : AInstr)] : List AInstr)) (fun h19 => ?_)
        refine X.lk ?_
        refine X.nil ?_
        refine ES.seq ?_
        refine VS.seq ?_
        refine VS.seq ?_
        refine VS.region ?_
        refine X.lk ?_
        refine X.nil ?_
        refine ES.seq ?_
        refine VS.block ?_
        refine VS.loop (fun jj : Int × DCodes × List AInstr => (⟨[(0, .w (.c (.ptr 0 0 0))), (8, .w (.c (.ptr 1 0 0))), (9, .w (.c (.ptr 2 0 0))), (10, .w (.c (.mref 3))), (14, .w (.c (.v (.int .i64 jj.1))))], [some (.bx 105 ((row_DCodes jj.2.1).map .v)), some (.bx 35 [.v (.int .i64 0), .v (.tree (([] : List ASlot).map row_ASlot)), .v (.tree (([] : List AInstr).map row_AInstr))]), some (.bx 35 [.v (.int .i64 (atD params1 i1)), .v (.tree (x1.1.map row_ASlot)), .v (.tree (([] : List AInstr).map row_AInstr))]), some (.sl 66 5 false (jj.2.2.map row_AInstr))]⟩ : St)) (j0 := (0, c4, (code2 ++ ([(⟨Op1, 0, 0, 0, Imm1⟩ : AInstr)] : List AInstr)))) ((St.le_mvB _ 6 3 rfl rfl rfl rfl).trans (St.le_sub ⟨rfl, rfl, rfl, rfl, rfl, trivial⟩ ⟨rfl, rfl, rfl, rfl, trivial⟩ rfl)) ?_
        rintro n4 again3 ih_again3 ⟨k2, c5, code3⟩
        refine VS.seq ?_
        refine VS.seq ?_
        refine VS.region ?_
        refine X.lk ?_
        refine X.lk ?_
        refine X.lenM (l := code3) ?_
        refine X.lk ?_
        refine X.nil ?_
        refine ES.seq ?_
        refine VS.cond (fun h20 => ?_) (fun h20 => ?_)
        · refine VS.skip ?_
          refine ES.seq ?_
          refine VS.seq ?_
          refine VS.block ?_
          refine VS.seq ?_
          refine VS.region ?_
          refine X.lk ?_
          refine X.lk ?_
          refine X.call true [] [0] (draw_Next_ok c5 8) (fun x9 => ?_) (hn := ⟨rfl, trivial⟩)
          refine X.ck fun h21 => ?_
          refine X.ck fun h22 => ?_
          refine X.lk ?_
          refine X.nil ?_
          refine ES.seq ?_
          refine VS.join (fun (to1 : Int) => (⟨[(0, .w (.c (.ptr 0 0 0))), (8, .w (.c (.ptr 1 0 0))), (9, .w (.c (.ptr 2 0 0))), (10, .w (.c (.mref 3))), (14, .w (.c (.v (.int .i64 k2)))), (15, .w (.c (.v (.int .i64 to1))))], [some (.bx 105 ((row_DCodes x9.2).map .v)), some (.bx 35 [.v (.int .i64 0), .v (.tree (([] : List ASlot).map row_ASlot)), .v (.tree (([] : List AInstr).map row_AInstr))]), some (.bx 35 [.v (.int .i64 (atD params1 i1)), .v (.tree (x1.1.map row_ASlot)), .v (.tree (([] : List AInstr).map row_AInstr))]), some (.sl 66 5 false (code3.map row_AInstr))]⟩ : St)) ?_ ?_
          · rintro to1
            refine VS.block ?_
            refine VS.seq ?_
            refine VS.region ?_
            refine X.lk ?_
            refine X.lk ?_
            refine X.idxM (l := code3) (i := k2) (fun h23 => ?_)
            refine X.lk ?_
            refine X.ld (i := k2) h23 ?_
            refine X.lk ?_
            refine X.lk ?_
            refine X.bif (b := (decide (((atD code3 k2).Op) = 20))) (fun h24 => ?_) (fun h24 => ?_)
            · refine X.gY h24 ?_
              refine X.lk ?_
              refine X.gY h24 ?_
              refine X.lk ?_
              refine X.gY h24 ?_
              refine X.idxM (l := code3) (i := k2) (fun h25 => ?_)
              refine X.gY h24 ?_
              refine X.lk ?_
              refine X.gY h24 ?_
              refine X.ld (i := k2) h25 ?_
              refine X.gY h24 ?_
              refine X.lk ?_
              refine X.pT h24 ?_
              refine X.lk ?_
              refine X.nil ?_
              refine ES.seq ?_
              refine VS.cond (fun h26 => ?_) (fun h26 => ?_)
              · refine VS.region ?_
                refine X.lk ?_
                refine X.lk ?_
                refine X.lk ?_
                refine X.idxM (l := code3) (i := k2) (fun h27 => ?_)
                refine X.lk ?_
                refine X.set (i := k2) (⟨(atD code3 k2).Op, to1, (atD code3 k2).B, (atD code3 k2).C, (atD code3 k2).Imm⟩ : AInstr) h27 ?_
                refine X.nil ?_
                refine ES.blkN ?_
                refine ES.blkN ?_
                refine ES.seq ?_
                refine VS.region ?_
                refine X.lk ?_
                refine X.ck fun h28 => ?_
                refine X.lk ?_
                refine X.nil ?_
                exact ES.go ih_again3 ((k2 + 1), x9.2, (setD code3 k2 (⟨(atD code3 k2).Op, to1, (atD code3 k2).B, (atD code3 k2).C, (atD code3 k2).Imm⟩ : AInstr))) (St.le_sub ⟨rfl, rfl, rfl, rfl, rfl, trivial⟩ ⟨rfl, rfl, rfl, rfl, trivial⟩ rfl)
              · refine VS.seq ?_
                refine VS.region ?_
                refine X.lk ?_
                refine X.lk ?_
                refine X.idxM (l := code3) (i := k2) (fun h29 => ?_)
                refine X.lk ?_
                refine X.ld (i := k2) h29 ?_
                refine X.lk ?_
                refine X.lk ?_
                refine X.bif (b := (decide (((atD code3 k2).Op) = 21))) (fun h30 => ?_) (fun h30 => ?_)
                · refine X.gY h30 ?_
                  refine X.lk ?_
                  refine X.gY h30 ?_
                  refine X.lk ?_
                  refine X.gY h30 ?_
                  refine X.idxM (l := code3) (i := k2) (fun h31 => ?_)
                  refine X.gY h30 ?_
                  refine X.lk ?_
                  refine X.gY h30 ?_
                  refine X.ld (i := k2) h31 ?_
                  refine X.gY h30 ?_
                  refine X.lk ?_
                  refine X.pT h30 ?_
                  refine X.lk ?_
                  refine X.nil ?_
                  refine ES.seq ?_
                  refine VS.cond (fun h32 => ?_) (fun h32 => ?_)
                  · refine VS.region ?_
                    refine X.lk ?_
                    refine X.lk ?_
                    refine X.lk ?_
                    refine X.idxM (l := code3) (i := k2) (fun h33 => ?_)
                    refine X.lk ?_
                    refine X.set (i := k2) (⟨(atD code3 k2).Op, (atD code3 k2).A, to1, (atD code3 k2).C, (atD code3 k2).Imm⟩ : AInstr) h33 ?_
                    refine X.nil ?_
                    refine ES.blkN ?_
                    refine ES.blkN ?_
                    refine ES.seq ?_
                    refine VS.region ?_
                    refine X.lk ?_
                    refine X.ck fun h34 => ?_
                    refine X.lk ?_
                    refine X.nil ?_
                    exact ES.go ih_again3 ((k2 + 1), x9.2, (setD code3 k2 (⟨(atD code3 k2).Op, (atD code3 k2).A, to1, (atD code3 k2).C, (atD code3 k2).Imm⟩ : AInstr))) (St.le_sub ⟨rfl, rfl, rfl, rfl, rfl, trivial⟩ ⟨rfl, rfl, rfl, rfl, trivial⟩ rfl)
                  · refine VS.skip ?_
                    refine ES.blkN ?_
                    refine ES.blkN ?_
                    refine ES.seq ?_
                    refine VS.region ?_
                    refine X.lk ?_
                    refine X.ck fun h35 => ?_
                    refine X.lk ?_
                    refine X.nil ?_
                    exact ES.go ih_again3 ((k2 + 1), x9.2, code3) (St.le_sub ⟨rfl, rfl, rfl, rfl, rfl, trivial⟩ ⟨rfl, rfl, rfl, rfl, trivial⟩ rfl)
                · refine X.gN h30 ?_
                  refine X.gN h30 ?_
                  refine X.gN h30 ?_
                  refine X.gN h30 ?_
                  refine X.gN h30 ?_
                  refine X.gN h30 ?_
                  refine X.pF h30 ?_
                  refine X.lk ?_
                  refine X.nil ?_
                  refine ES.seq ?_
                  refine VS.condF rfl ?_
                  refine VS.skip ?_
                  refine ES.blkN ?_
                  refine ES.blkN ?_
                  refine ES.seq ?_
                  refine VS.region ?_
                  refine X.lk ?_
                  refine X.ck fun h36 => ?_
                  refine X.lk ?_
                  refine X.nil ?_
                  exact ES.go ih_again3 ((k2 + 1), x9.2, code3) (St.le_sub ⟨rfl, rfl, rfl, rfl, rfl, trivial⟩ ⟨rfl, rfl, rfl, rfl, trivial⟩ rfl)
            · refine X.gN h24 ?_
              refine X.gN h24 ?_
              refine X.gN h24 ?_
              refine X.gN h24 ?_
              refine X.gN h24 ?_
              refine X.gN h24 ?_
              refine X.pF h24 ?_
              refine X.lk ?_
              refine X.nil ?_
              refine ES.seq ?_
              refine VS.condF rfl ?_
              refine VS.seq ?_
              refine VS.region ?_
              refine X.lk ?_
              refine X.lk ?_
              refine X.idxM (l := code3) (i := k2) (fun h37 => ?_)
              refine X.lk ?_
              refine X.ld (i := k2) h37 ?_
              refine X.lk ?_
              refine X.lk ?_
              refine X.bif (b := (decide (((atD code3 k2).Op) = 21))) (fun h38 => ?_) (fun h38 => ?_)
              · refine X.gY h38 ?_
                refine X.lk ?_
                refine X.gY h38 ?_
                refine X.lk ?_
                refine X.gY h38 ?_
                refine X.idxM (l := code3) (i := k2) (fun h39 => ?_)
                refine X.gY h38 ?_
                refine X.lk ?_
                refine X.gY h38 ?_
                refine X.ld (i := k2) h39 ?_
                refine X.gY h38 ?_
                refine X.lk ?_
                refine X.pT h38 ?_
                refine X.lk ?_
                refine X.nil ?_
                refine ES.seq ?_
                refine VS.cond (fun h40 => ?_) (fun h40 => ?_)
                · refine VS.region ?_
                  refine X.lk ?_
                  refine X.lk ?_
                  refine X.lk ?_
                  refine X.idxM (l := code3) (i := k2) (fun h41 => ?_)
                  refine X.lk ?_
                  refine X.set (i := k2) (⟨(atD code3 k2).Op, (atD code3 k2).A, to1, (atD code3 k2).C, (atD code3 k2).Imm⟩ : AInstr) h41 ?_
                  refine X.nil ?_
                  refine ES.blkN ?_
                  refine ES.blkN ?_
                  refine ES.seq ?_
                  refine VS.region ?_
                  refine X.lk ?_
                  refine X.ck fun h42 => ?_
                  refine X.lk ?_
                  refine X.nil ?_
                  exact ES.go ih_again3 ((k2 + 1), x9.2, (setD code3 k2 (⟨(atD code3 k2).Op, (atD code3 k2).A, to1, (atD code3 k2).C, (atD code3 k2).Imm⟩ : AInstr))) (St.le_sub ⟨rfl, rfl, rfl, rfl, rfl, trivial⟩ ⟨rfl, rfl, rfl, rfl, trivial⟩ rfl)
                · refine VS.skip ?_
                  refine ES.blkN ?_
                  refine ES.blkN ?_
                  refine ES.seq ?_
                  refine VS.region ?_
                  refine X.lk ?_
                  refine X.ck fun h43 => ?_
                  refine X.lk ?_
                  refine X.nil ?_
                  exact ES.go ih_again3 ((k2 + 1), x9.2, code3) (St.le_sub ⟨rfl, rfl, rfl, rfl, rfl, trivial⟩ ⟨rfl, rfl, rfl, rfl, trivial⟩ rfl)
              · refine X.gN h38 ?_
                refine X.gN h38 ?_
                refine X.gN h38 ?_
                refine X.gN h38 ?_
                refine X.gN h38 ?_
                refine X.gN h38 ?_
                refine X.pF h38 ?_
                refine X.lk ?_
                refine X.nil ?_
                refine ES.seq ?_
                refine VS.condF rfl ?_
                refine VS.skip ?_
                refine ES.blkN ?_
                refine ES.blkN ?_
                refine ES.seq ?_
                refine VS.region ?_
                refine X.lk ?_
                refine X.ck fun h44 => ?_
                refine X.lk ?_
                refine X.nil ?_
                exact ES.go ih_again3 ((k2 + 1), x9.2, code3) (St.le_sub ⟨rfl, rfl, rfl, rfl, rfl, trivial⟩ ⟨rfl, rfl, rfl, rfl, trivial⟩ rfl)
          · intro k3 ih_k3
            refine VS.seq ?_
            refine VS.region ?_
            refine X.lk ?_
            refine X.lk ?_
            refine X.lk ?_
            refine X.bif (b := (decide (((k2 + x9.1) - 2) < 0))) (fun h45 => ?_) (fun h45 => ?_)
            · refine X.gN h45 ?_
              refine X.gN h45 ?_
              refine X.gN h45 ?_
              refine X.gN h45 ?_
              refine X.pT h45 ?_
              refine X.nil ?_
              refine ES.seq ?_
              refine VS.condT rfl ?_
              refine VS.region ?_
              refine X.lk ?_
              refine X.lenM (l := code3) ?_
              refine X.ck fun h46 => ?_
              refine X.lk ?_
              refine X.nil ?_
              exact ES.jn ih_k3 ((code3.length : Int) - 1) (St.le_sub ⟨rfl, rfl, rfl, rfl, rfl, rfl, trivial⟩ ⟨rfl, rfl, rfl, rfl, trivial⟩ rfl)
            · refine X.gY h45 ?_
              refine X.lk ?_
              refine X.gY h45 ?_
              refine X.lk ?_
              refine X.gY h45 ?_
              refine X.lenM (l := code3) ?_
              refine X.gY h45 ?_
              refine X.lk ?_
              refine X.pF h45 ?_
              refine X.nil ?_
              refine ES.seq ?_
              refine VS.cond (fun h47 => ?_) (fun h47 => ?_)
              · refine VS.region ?_
                refine X.lk ?_
                refine X.lenM (l := code3) ?_
                refine X.ck fun h48 => ?_
                refine X.lk ?_
                refine X.nil ?_
                exact ES.jn ih_k3 ((code3.length : Int) - 1) (St.le_sub ⟨rfl, rfl, rfl, rfl, rfl, rfl, trivial⟩ ⟨rfl, rfl, rfl, rfl, trivial⟩ rfl)
              · refine VS.skip ?_
                exact ES.jn ih_k3 ((k2 + x9.1) - 2) (St.le_sub ⟨rfl, rfl, rfl, rfl, rfl, rfl, trivial⟩ ⟨rfl, rfl, rfl, rfl, trivial⟩ rfl)
        · refine VS.exit ?_
          refine ES.thnE ?_
          refine ES.thnE ?_
          refine ES.blkE ?_
          refine ES.seq ?_
          refine VS.seq ?_
          refine VS.region ?_
          refine X.lk ?_
          refine X.lk ?_
          refine X.st ?_
          refine X.nil ?_
          refine ES.seq ?_
          refine VS.seq ?_
          refine VS.region ?_
          refine X.lk ?_
          refine X.st ?_
          refine X.nil ?_
          refine ES.seq ?_
          refine VS.ret ?_
          refine ES.ret ?_
          exact Ret.weak (St.le_tcell _ 1 2 3 rfl rfl rfl rfl) (Ret.clo [.agg ((row_AFunc (⟨(atD params1 i1), x1.1, code3⟩ : AFunc)).map .v)] ⟨⟨_, _, _, _, _, _, rfl, rfl, fits rfl, rfl⟩, trivial⟩ ⟨rfl, trivial⟩)
      · intro k1 ih_k1
        refine VS.seq ?_
        refine VS.region ?_
        refine X.lk ?_
        refine X.call true [] [0] (draw_Next_ok c3 12) (fun x10 => ?_) (hn := ⟨rfl, trivial⟩)
        refine X.lk ?_
        refine X.nil ?_
        refine ES.seq ?_
        refine VS.cond (fun h49 => ?_) (fun h49 => ?_)
        · refine VS.region ?_
          refine X.lk ?_
          refine X.call true [] [0] (draw_Word_ok x10.2) (fun x11 => ?_) (hn := ⟨rfl, trivial⟩)
          refine X.build ?_
          refine X.st ?_
          refine X.nil ?_
          exact ES.jn ih_k1 (x11.2, 24, x11.1) (St.le_sub ⟨rfl, rfl, rfl, rfl, rfl, trivial⟩ ⟨rfl, rfl, rfl, rfl, rfl, trivial⟩ rfl)
        · refine VS.skip ?_
          exact ES.jn ih_k1 (x10.2, 23, 0) (St.le_sub ⟨rfl, rfl, rfl, rfl, rfl, trivial⟩ ⟨rfl, rfl, rfl, rfl, rfl, trivial⟩ rfl)
set_option maxHeartbeats 4000000 in
theorem draw_Program_ok (c1 : DCodes) (funcs1 : Int) (most1 : Int) : ∀ r : AProgram × DCodes, draw_Program c1 funcs1 most1 r → FCalls Try.prog 50 [(105, row_DCodes c1)] [.c (.ptr 0 0 0), .c (.v (.int .i64 funcs1)), .c (.v (.int .i64 most1))] (.w (.agg ((row_AProgram r.1).map .v))) [] [(105, row_DCodes r.2)] := by
  refine fnS 44 ?_
  unfold draw_Program
  refine VS.seq ?_
  refine VS.region ?_
  refine X.alloc 1 ?_
  refine X.nil ?_
  refine ES.seq ?_
  refine VS.seq ?_
  refine VS.region ?_
  refine X.bs 2 ([0] : List Int) iRow ?_
  refine X.lk ?_
  refine X.nil ?_
  refine ES.seq ?_
  refine VS.seq ?_
  refine VS.seq ?_
  refine VS.region ?_
  refine X.lk ?_
  refine X.lk ?_
  refine X.call true [] [0] (draw_Next_ok c1 funcs1) (fun x1 => ?_) (hn := ⟨rfl, trivial⟩)
  refine X.lk ?_
  refine X.nil ?_
  refine ES.seq ?_
  refine VS.block ?_
  refine VS.loop (fun jj : Int × DCodes × List Int => (⟨[(0, .w (.c (.ptr 0 0 0))), (2, .w (.c (.v (.int .i64 most1)))), (6, .w (.c (.ptr 1 0 0))), (7, .w (.c (.mref 2))), (8, .w (.c (.v (.int .i64 jj.1))))], [some (.bx 105 ((row_DCodes jj.2.1).map .v)), some (.bx 27 [.v (.tree (([] : List AFunc).map row_AFunc))]), some (.sl 3 1 false (jj.2.2.map iRow))]⟩ : St)) (j0 := (x1.1, x1.2, ([0] : List Int))) (St.le_sub ⟨rfl, rfl, rfl, rfl, rfl, trivial⟩ ⟨rfl, rfl, rfl, trivial⟩ rfl) ?_
  rintro n2 again1 ih_again1 ⟨n1, c2, params1⟩
  refine VS.seq ?_
  refine VS.seq ?_
  refine VS.region ?_
  refine X.lk ?_
  refine X.lk ?_
  refine X.nil ?_
  refine ES.seq ?_
  refine VS.cond (fun h1 => ?_) (fun h1 => ?_)
  · refine VS.skip ?_
    refine ES.seq ?_
    refine VS.seq ?_
    refine VS.block ?_
    refine VS.region ?_
    refine X.lk ?_
    refine X.lk ?_
    refine X.call true [] [0] (draw_Next_ok c2 4) (fun x2 => ?_) (hn := ⟨rfl, trivial⟩)
    refine X.bs 3 ([x2.1] : List Int) iRow ?_
    refine X.appMM 4 (l := params1) (l' := ([x2.1] : List Int)) (fun h2 => ?_)
    refine X.lk ?_
    refine X.nil ?_
    refine ES.blkN ?_
    refine ES.seq ?_
    refine VS.region ?_
    refine X.lk ?_
    refine X.ck fun h3 => ?_
    refine X.lk ?_
    refine X.nil ?_
    exact ES.go ih_again1 ((n1 - 1), x2.2, (params1 ++ ([x2.1] : List Int))) ((St.le_mvB _ 4 2 rfl rfl rfl rfl).trans (St.le_sub ⟨rfl, rfl, rfl, rfl, rfl, trivial⟩ ⟨rfl, rfl, rfl, trivial⟩ rfl))
  · refine VS.exit ?_
    refine ES.thnE ?_
    refine ES.thnE ?_
    refine ES.blkE ?_
    refine ES.seq ?_
    refine VS.seq ?_
    refine VS.region ?_
    refine X.alloc 3 ?_
    refine X.nil ?_
    refine ES.seq ?_
    refine VS.seq ?_
    refine VS.seq ?_
    refine VS.region ?_
    refine X.lk ?_
    refine X.nil ?_
    refine ES.seq ?_
    refine VS.block ?_
    refine VS.loop (fun jj : List Int × Int × DCodes × List AFunc => (⟨[(0, .w (.c (.ptr 0 0 0))), (2, .w (.c (.v (.int .i64 most1)))), (6, .w (.c (.ptr 1 0 0))), (7, .w (.c (.v (.tree (jj.1.map iRow))))), (9, .w (.c (.ptr 2 0 0))), (10, .w (.c (.v (.int .i64 jj.2.1))))], [some (.bx 105 ((row_DCodes jj.2.2.1).map .v)), some (.bx 27 [.v (.tree (([] : List AFunc).map row_AFunc))]), some (.bx 27 [.v (.tree (jj.2.2.2.map row_AFunc))])]⟩ : St)) (j0 := (params1, 0, c2, ([] : List AFunc))) ((St.le_tree _ 7 2 rfl rfl).trans ((St.le_drop _ 2 (Nat.le_of_ble_eq_true rfl)).trans ((St.le_mvB _ 3 2 rfl rfl rfl rfl).trans (St.le_sub ⟨rfl, rfl, rfl, rfl, rfl, rfl, trivial⟩ ⟨rfl, rfl, rfl, trivial⟩ rfl)))) ?_
    rintro n3 again2 ih_again2 ⟨params2, i1, c3, Funcs1⟩
    refine VS.seq ?_
    refine VS.seq ?_
    refine VS.region ?_
    refine X.lk ?_
    refine X.lk ?_
    refine X.lenT ?_
    refine X.lk ?_
    refine X.nil ?_
    refine ES.seq ?_
    refine VS.cond (fun h4 => ?_) (fun h4 => ?_)
    · refine VS.skip ?_
      refine ES.seq ?_
      refine VS.seq ?_
      refine VS.block ?_
      refine VS.seq ?_
      refine VS.region ?_
      refine X.lk ?_
      refine X.lk ?_
      refine X.appNT 3 (l' := Funcs1) (fun h5 => ?_)
      refine X.lk ?_
      refine X.lk ?_
      refine X.lk ?_
      refine X.lk ?_
      refine X.call true [] [0] (draw_function_ok c3 i1 params2 most1) (fun x3 => ?_) (hn := ⟨rfl, trivial⟩)
      refine X.bs 4 ([x3.1] : List AFunc) row_AFunc ?_
      refine X.appMM 5 (l := Funcs1) (l' := ([x3.1] : List AFunc)) (fun h6 => ?_)
      refine X.lk ?_
      refine X.nil ?_
      refine ES.seq ?_
      refine VS.region ?_
      refine X.lk ?_
      refine X.lk ?_
      refine X.st ?_
      refine X.nil ?_
      refine ES.blkN ?_
      refine ES.seq ?_
      refine VS.region ?_
      refine X.lk ?_
      refine X.ck fun h7 => ?_
      refine X.lk ?_
      refine X.nil ?_
      exact ES.go ih_again2 (params2, (i1 + 1), x3.2, (Funcs1 ++ ([x3.1] : List AFunc))) ((St.le_tcell _ 2 0 5 rfl rfl rfl rfl).trans (St.le_sub ⟨rfl, rfl, rfl, rfl, rfl, rfl, trivial⟩ ⟨rfl, rfl, rfl, trivial⟩ rfl))
    · refine VS.exit ?_
      refine ES.thnE ?_
      refine ES.thnE ?_
      refine ES.blkE ?_
      refine ES.seq ?_
      refine VS.seq ?_
      refine VS.region ?_
      refine X.lk ?_
      refine X.st ?_
      refine X.nil ?_
      refine ES.seq ?_
      refine VS.ret ?_
      refine ES.ret ?_
      exact Ret.clo [.agg ((row_AProgram (⟨Funcs1⟩ : AProgram)).map .v)] ⟨⟨_, _, _, _, _, _, rfl, rfl, fits rfl, rfl⟩, trivial⟩ ⟨rfl, trivial⟩
set_option maxHeartbeats 4000000 in
theorem r02_Size_ok (n1 : Int) : ∀ r : Bool, r02_Size n1 r → FCalls Try.prog 146 [] [.c (.v (.int .i64 n1))] (.w (.c (.v (.bool r)))) [] [] := by
  refine fnS 21 ?_
  unfold r02_Size
  refine VS.seq ?_
  refine VS.region ?_
  refine X.lk ?_
  refine X.nil ?_
  refine ES.seq ?_
  refine VS.seq ?_
  refine VS.region ?_
  refine X.lk ?_
  refine X.lk ?_
  refine X.lk ?_
  refine X.bif (b := (decide (n1 = 1))) (fun h1 => ?_) (fun h1 => ?_)
  · refine X.gN h1 ?_
    refine X.gN h1 ?_
    refine X.pT h1 ?_
    refine X.lk ?_
    refine X.gN rfl ?_
    refine X.gN rfl ?_
    refine X.pT rfl ?_
    refine X.lk ?_
    refine X.gN rfl ?_
    refine X.gN rfl ?_
    refine X.pT rfl ?_
    refine X.lk ?_
    refine X.gN rfl ?_
    refine X.gN rfl ?_
    refine X.pT rfl ?_
    refine X.lk ?_
    refine X.nil ?_
    refine ES.seq ?_
    refine VS.ret ?_
    refine ES.ret ?_
    exact Ret.clo [.c (.v (.bool true))] ⟨rfl, trivial⟩ trivial
  · refine X.gY h1 ?_
    refine X.lk ?_
    refine X.gY h1 ?_
    refine X.lk ?_
    refine X.pF h1 ?_
    refine X.lk ?_
    refine X.bif (b := (decide (n1 = 2))) (fun h2 => ?_) (fun h2 => ?_)
    · refine X.gN h2 ?_
      refine X.gN h2 ?_
      refine X.pT h2 ?_
      refine X.lk ?_
      refine X.gN rfl ?_
      refine X.gN rfl ?_
      refine X.pT rfl ?_
      refine X.lk ?_
      refine X.gN rfl ?_
      refine X.gN rfl ?_
      refine X.pT rfl ?_
      refine X.lk ?_
      refine X.nil ?_
      refine ES.seq ?_
      refine VS.ret ?_
      refine ES.ret ?_
      exact Ret.clo [.c (.v (.bool true))] ⟨rfl, trivial⟩ trivial
    · refine X.gY h2 ?_
      refine X.lk ?_
      refine X.gY h2 ?_
      refine X.lk ?_
      refine X.pF h2 ?_
      refine X.lk ?_
      refine X.bif (b := (decide (n1 = 4))) (fun h3 => ?_) (fun h3 => ?_)
      · refine X.gN h3 ?_
        refine X.gN h3 ?_
        refine X.pT h3 ?_
        refine X.lk ?_
        refine X.gN rfl ?_
        refine X.gN rfl ?_
        refine X.pT rfl ?_
        refine X.lk ?_
        refine X.nil ?_
        refine ES.seq ?_
        refine VS.ret ?_
        refine ES.ret ?_
        exact Ret.clo [.c (.v (.bool true))] ⟨rfl, trivial⟩ trivial
      · refine X.gY h3 ?_
        refine X.lk ?_
        refine X.gY h3 ?_
        refine X.lk ?_
        refine X.pF h3 ?_
        refine X.lk ?_
        refine X.bif (b := (decide (n1 = 8))) (fun h4 => ?_) (fun h4 => ?_)
        · refine X.gN h4 ?_
          refine X.gN h4 ?_
          refine X.pT h4 ?_
          refine X.lk ?_
          refine X.nil ?_
          refine ES.seq ?_
          refine VS.ret ?_
          refine ES.ret ?_
          exact Ret.clo [.c (.v (.bool true))] ⟨rfl, trivial⟩ trivial
        · refine X.gY h4 ?_
          refine X.lk ?_
          refine X.gY h4 ?_
          refine X.lk ?_
          refine X.pF h4 ?_
          refine X.lk ?_
          refine X.nil ?_
          refine ES.seq ?_
          refine VS.ret ?_
          refine ES.ret ?_
          exact Ret.clo [.c (.v (.bool (decide (n1 = 16))))] ⟨rfl, trivial⟩ trivial
set_option maxHeartbeats 4000000 in
theorem r03_Power_ok (n1 : Int) : ∀ r : Bool, r03_Power n1 r → FCalls Try.prog 84 [] [.c (.v (.int .i64 n1))] (.w (.c (.v (.bool r)))) [] [] := by
  refine fnS 11 ?_
  unfold r03_Power
  refine VS.seq ?_
  refine VS.region ?_
  refine X.lk ?_
  refine X.nil ?_
  refine ES.seq ?_
  refine VS.seq ?_
  refine VS.seq ?_
  refine VS.region ?_
  refine X.lk ?_
  refine X.nil ?_
  refine ES.seq ?_
  refine VS.block ?_
  refine VS.loop (fun (k1 : Int) => (⟨[(0, .w (.c (.v (.int .i64 n1)))), (3, .w (.c (.v (.int .i64 k1))))], []⟩ : St)) (j0 := 1) (St.le_sub ⟨rfl, rfl, trivial⟩ trivial rfl) ?_
  rintro n2 again1 ih_again1 k1
  refine VS.seq ?_
  refine VS.seq ?_
  refine VS.region ?_
  refine X.lk ?_
  refine X.lk ?_
  refine X.nil ?_
  refine ES.seq ?_
  refine VS.cond (fun h1 => ?_) (fun h1 => ?_)
  · refine VS.skip ?_
    refine ES.seq ?_
    refine VS.seq ?_
    refine VS.block ?_
    refine VS.seq ?_
    refine VS.region ?_
    refine X.lk ?_
    refine X.lk ?_
    refine X.lk ?_
    refine X.nil ?_
    refine ES.seq ?_
    refine VS.cond (fun h2 => ?_) (fun h2 => ?_)
    · refine VS.seq ?_
      refine VS.region ?_
      refine X.lk ?_
      refine X.nil ?_
      refine ES.seq ?_
      refine VS.ret ?_
      refine ES.blkR ?_
      refine ES.thnR ?_
      refine ES.thnR ?_
      refine ES.blkR ?_
      refine ES.thnR ?_
      refine ES.ret ?_
      exact Ret.clo [.c (.v (.bool true))] ⟨rfl, trivial⟩ trivial
    · refine VS.skip ?_
      refine ES.blkN ?_
      refine ES.seq ?_
      refine VS.region ?_
      refine X.lk ?_
      refine X.ck fun h3 => ?_
      refine X.lk ?_
      refine X.nil ?_
      exact ES.go ih_again1 (k1 * 2) (St.le_sub ⟨rfl, rfl, trivial⟩ trivial rfl)
  · refine VS.exit ?_
    refine ES.thnE ?_
    refine ES.thnE ?_
    refine ES.blkE ?_
    refine ES.seq ?_
    refine VS.seq ?_
    refine VS.region ?_
    refine X.lk ?_
    refine X.nil ?_
    refine ES.seq ?_
    refine VS.ret ?_
    refine ES.ret ?_
    exact Ret.clo [.c (.v (.bool false))] ⟨rfl, trivial⟩ trivial
set_option maxHeartbeats 4000000 in
theorem r03_Slots_ok (s1 : List ASlot) : ∀ r : Int, r03_Slots s1 r → FCalls Try.prog 120 [] [.c (.v (.tree (s1.map row_ASlot)))] (.w (.c (.v (.int .i64 r)))) [] [] := by
  refine fnS 29 ?_
  unfold r03_Slots
  refine VS.seq ?_
  refine VS.region ?_
  refine X.lk ?_
  refine X.nil ?_
  refine ES.seq ?_
  refine VS.seq ?_
  refine VS.seq ?_
  refine VS.region ?_
  refine X.lk ?_
  refine X.lenT ?_
  refine X.lk ?_
  refine X.nil ?_
  refine ES.seq ?_
  refine VS.cond (fun h1 => ?_) (fun h1 => ?_)
  · refine VS.seq ?_
    refine VS.region ?_
    refine X.lk ?_
    refine X.nil ?_
    refine ES.seq ?_
    refine VS.ret ?_
    refine ES.thnR ?_
    refine ES.ret ?_
    exact Ret.clo [.c (.v (.int .i64 3))] ⟨rfl, trivial⟩ trivial
  · refine VS.skip ?_
    refine ES.seq ?_
    refine VS.seq ?_
    refine VS.seq ?_
    refine VS.region ?_
    refine X.lk ?_
    refine X.nil ?_
    refine ES.seq ?_
    refine VS.block ?_
    refine VS.loop (fun (i1 : Int) => (⟨[(0, .w (.c (.v (.tree (s1.map row_ASlot))))), (3, .w (.c (.v (.int .i64 i1))))], []⟩ : St)) (j0 := 0) (St.le_sub ⟨rfl, rfl, trivial⟩ trivial rfl) ?_
    rintro n1 again1 ih_again1 i1
    refine VS.seq ?_
    refine VS.seq ?_
    refine VS.region ?_
    refine X.lk ?_
    refine X.lk ?_
    refine X.lenT ?_
    refine X.lk ?_
    refine X.nil ?_
    refine ES.seq ?_
    refine VS.cond (fun h2 => ?_) (fun h2 => ?_)
    · refine VS.skip ?_
      refine ES.seq ?_
      refine VS.seq ?_
      refine VS.block ?_
      refine VS.seq ?_
      refine VS.region ?_
      refine X.lk ?_
      refine X.lk ?_
      refine X.idxT (fun h3 => ?_)
      refine X.lk ?_
      refine X.lk ?_
      refine X.call true [] [] (r02_Size_ok ((atD s1 i1).Size)) (fun x1 => ?_)
      refine X.lk ?_
      refine X.lk ?_
      refine X.bif (b := (!x1)) (fun h4 => ?_) (fun h4 => ?_)
      · refine X.gN h4 ?_
        refine X.gN h4 ?_
        refine X.gN h4 ?_
        refine X.gN h4 ?_
        refine X.gN h4 ?_
        refine X.gN h4 ?_
        refine X.gN h4 ?_
        refine X.pT h4 ?_
        refine X.nil ?_
        refine ES.seq ?_
        refine VS.condT rfl ?_
        refine VS.seq ?_
        refine VS.region ?_
        refine X.lk ?_
        refine X.nil ?_
        refine ES.seq ?_
        refine VS.ret ?_
        refine ES.blkR ?_
        refine ES.thnR ?_
        refine ES.thnR ?_
        refine ES.blkR ?_
        refine ES.thnR ?_
        refine ES.ret ?_
        exact Ret.clo [.c (.v (.int .i64 5))] ⟨rfl, trivial⟩ trivial
      · refine X.gY h4 ?_
        refine X.lk ?_
        refine X.gY h4 ?_
        refine X.lk ?_
        refine X.gY h4 ?_
        refine X.idxT (fun h5 => ?_)
        refine X.gY h4 ?_
        refine X.lk ?_
        refine X.gY h4 ?_
        refine X.lk ?_
        refine X.gY h4 ?_
        refine X.call true [] [] (r03_Power_ok ((atD s1 i1).Align)) (fun x2 => ?_)
        refine X.gY h4 ?_
        refine X.lk ?_
        refine X.pF h4 ?_
        refine X.nil ?_
        refine ES.seq ?_
        refine VS.cond (fun h6 => ?_) (fun h6 => ?_)
        · refine VS.seq ?_
          refine VS.region ?_
          refine X.lk ?_
          refine X.nil ?_
          refine ES.seq ?_
          refine VS.ret ?_
          refine ES.blkR ?_
          refine ES.thnR ?_
          refine ES.thnR ?_
          refine ES.blkR ?_
          refine ES.thnR ?_
          refine ES.ret ?_
          exact Ret.clo [.c (.v (.int .i64 5))] ⟨rfl, trivial⟩ trivial
        · refine VS.skip ?_
          refine ES.blkN ?_
          refine ES.seq ?_
          refine VS.region ?_
          refine X.lk ?_
          refine X.ck fun h7 => ?_
          refine X.lk ?_
          refine X.nil ?_
          exact ES.go ih_again1 (i1 + 1) (St.le_sub ⟨rfl, rfl, trivial⟩ trivial rfl)
    · refine VS.exit ?_
      refine ES.thnE ?_
      refine ES.thnE ?_
      refine ES.blkE ?_
      refine ES.seq ?_
      refine VS.seq ?_
      refine VS.region ?_
      refine X.lk ?_
      refine X.nil ?_
      refine ES.seq ?_
      refine VS.ret ?_
      refine ES.ret ?_
      exact Ret.clo [.c (.v (.int .i64 0))] ⟨rfl, trivial⟩ trivial
set_option maxHeartbeats 4000000 in
theorem r03_Align_ok (s1 : List ASlot) : ∀ r : Int, r03_Align s1 r → FCalls Try.prog 96 [] [.c (.v (.tree (s1.map row_ASlot)))] (.w (.c (.v (.int .i64 r)))) [] [] := by
  refine fnS 23 ?_
  unfold r03_Align
  refine VS.seq ?_
  refine VS.region ?_
  refine X.lk ?_
  refine X.nil ?_
  refine ES.seq ?_
  refine VS.seq ?_
  refine VS.region ?_
  refine X.lk ?_
  refine X.nil ?_
  refine ES.seq ?_
  refine VS.seq ?_
  refine VS.seq ?_
  refine VS.region ?_
  refine X.lk ?_
  refine X.call true [] [] (r03_Slots_ok s1) (fun x1 => ?_)
  refine X.lk ?_
  refine X.nil ?_
  refine ES.seq ?_
  refine VS.cond (fun h1 => ?_) (fun h1 => ?_)
  · refine VS.seq ?_
    refine VS.region ?_
    refine X.lk ?_
    refine X.lk ?_
    refine X.nil ?_
    refine ES.seq ?_
    refine VS.ret ?_
    refine ES.thnR ?_
    refine ES.ret ?_
    exact Ret.clo [.c (.v (.int .i64 16))] ⟨rfl, trivial⟩ trivial
  · refine VS.skip ?_
    refine ES.seq ?_
    refine VS.seq ?_
    refine VS.seq ?_
    refine VS.region ?_
    refine X.lk ?_
    refine X.nil ?_
    refine ES.seq ?_
    refine VS.block ?_
    refine VS.loop (fun jj : Int × Int => (⟨[(0, .w (.c (.v (.tree (s1.map row_ASlot))))), (3, .w (.c (.v (.int .i64 jj.1)))), (4, .w (.c (.v (.int .i64 jj.2))))], []⟩ : St)) (j0 := (16, 0)) (St.le_sub ⟨rfl, rfl, rfl, trivial⟩ trivial rfl) ?_
    rintro n1 again1 ih_again1 ⟨a1, i1⟩
    refine VS.seq ?_
    refine VS.seq ?_
    refine VS.region ?_
    refine X.lk ?_
    refine X.lk ?_
    refine X.lenT ?_
    refine X.lk ?_
    refine X.nil ?_
    refine ES.seq ?_
    refine VS.cond (fun h2 => ?_) (fun h2 => ?_)
    · refine VS.skip ?_
      refine ES.seq ?_
      refine VS.seq ?_
      refine VS.block ?_
      refine VS.region ?_
      refine X.lk ?_
      refine X.lk ?_
      refine X.lk ?_
      refine X.idxT (fun h3 => ?_)
      refine X.lk ?_
      refine X.lk ?_
      refine X.max ?_
      refine X.lk ?_
      refine X.nil ?_
      refine ES.blkN ?_
      refine ES.seq ?_
      refine VS.region ?_
      refine X.lk ?_
      refine X.ck fun h4 => ?_
      refine X.lk ?_
      refine X.nil ?_
      exact ES.go ih_again1 ((max a1 ((atD s1 i1).Align)), (i1 + 1)) (St.le_sub ⟨rfl, rfl, rfl, trivial⟩ trivial rfl)
    · refine VS.exit ?_
      refine ES.thnE ?_
      refine ES.thnE ?_
      refine ES.blkE ?_
      refine ES.seq ?_
      refine VS.seq ?_
      refine VS.region ?_
      refine X.lk ?_
      refine X.lk ?_
      refine X.nil ?_
      refine ES.seq ?_
      refine VS.ret ?_
      refine ES.ret ?_
      exact Ret.clo [.c (.v (.int .i64 a1))] ⟨rfl, trivial⟩ trivial
set_option maxHeartbeats 4000000 in
theorem r05_Align_ok (p1 : AProgram) : ∀ r : Int, r05_Align p1 r → FCalls Try.prog 56 [] [.agg ((row_AProgram p1).map .v)] (.w (.c (.v (.int .i64 r)))) [] [] := by
  refine fnS 22 ?_
  unfold r05_Align
  refine VS.seq ?_
  refine VS.region ?_
  refine X.box 0 ?_
  refine X.lk ?_
  refine X.nil ?_
  refine ES.seq ?_
  refine VS.seq ?_
  refine VS.region ?_
  refine X.lk ?_
  refine X.nil ?_
  refine ES.seq ?_
  refine VS.seq ?_
  refine VS.seq ?_
  refine VS.region ?_
  refine X.lk ?_
  refine X.nil ?_
  refine ES.seq ?_
  refine VS.block ?_
  refine VS.loop (fun jj : Int × Int => (⟨[(1, .w (.c (.ptr 0 0 0))), (3, .w (.c (.v (.int .i64 jj.1)))), (4, .w (.c (.v (.int .i64 jj.2))))], [some (.bx 27 ((row_AProgram p1).map .v))]⟩ : St)) (j0 := (16, 0)) (St.le_sub ⟨rfl, rfl, rfl, trivial⟩ ⟨rfl, trivial⟩ rfl) ?_
  rintro n1 again1 ih_again1 ⟨a1, i1⟩
  refine VS.seq ?_
  refine VS.seq ?_
  refine VS.region ?_
  refine X.lk ?_
  refine X.lk ?_
  refine X.lk ?_
  refine X.lenT ?_
  refine X.lk ?_
  refine X.nil ?_
  refine ES.seq ?_
  refine VS.cond (fun h1 => ?_) (fun h1 => ?_)
  · refine VS.skip ?_
    refine ES.seq ?_
    refine VS.seq ?_
    refine VS.block ?_
    refine VS.region ?_
    refine X.lk ?_
    refine X.lk ?_
    refine X.lk ?_
    refine X.lk ?_
    refine X.idxT (fun h2 => ?_)
    refine X.lk ?_
    refine X.lk ?_
    refine X.call true [] [] (r03_Align_ok ((atD p1.Funcs i1).Slots)) (fun x1 => ?_)
    refine X.max ?_
    refine X.lk ?_
    refine X.nil ?_
    refine ES.blkN ?_
    refine ES.seq ?_
    refine VS.region ?_
    refine X.lk ?_
    refine X.ck fun h3 => ?_
    refine X.lk ?_
    refine X.nil ?_
    exact ES.go ih_again1 ((max a1 x1), (i1 + 1)) (St.le_sub ⟨rfl, rfl, rfl, trivial⟩ ⟨rfl, trivial⟩ rfl)
  · refine VS.exit ?_
    refine ES.thnE ?_
    refine ES.thnE ?_
    refine ES.blkE ?_
    refine ES.seq ?_
    refine VS.seq ?_
    refine VS.region ?_
    refine X.lk ?_
    refine X.lk ?_
    refine X.nil ?_
    refine ES.seq ?_
    refine VS.ret ?_
    refine ES.ret ?_
    exact Ret.clo [.c (.v (.int .i64 a1))] ⟨rfl, trivial⟩ trivial
set_option maxHeartbeats 4000000 in
theorem r24_Args_ok (p1 : AProgram) (i1 : Int) : ∀ r : Int, r24_Args p1 i1 r → FCalls Try.prog 31 [] [.agg ((row_AProgram p1).map .v), .c (.v (.int .i64 i1))] (.w (.c (.v (.int .i64 r)))) [] [] := by
  refine fnS 51 ?_
  unfold r24_Args
  refine VS.seq ?_
  refine VS.region ?_
  refine X.box 0 ?_
  refine X.lk ?_
  refine X.nil ?_
  refine ES.seq ?_
  refine VS.seq ?_
  refine VS.region ?_
  refine X.lk ?_
  refine X.nil ?_
  refine ES.seq ?_
  refine VS.seq ?_
  refine VS.region ?_
  refine X.lk ?_
  refine X.lk ?_
  refine X.lk ?_
  refine X.idxT (fun h1 => ?_)
  refine X.lk ?_
  refine X.lk ?_
  refine X.lk ?_
  refine X.nil ?_
  refine ES.seq ?_
  refine VS.seq ?_
  refine VS.seq ?_
  refine VS.region ?_
  refine X.lk ?_
  refine X.nil ?_
  refine ES.seq ?_
  refine VS.block ?_
  refine VS.loop (fun jj : Int × Int => (⟨[(2, .w (.c (.ptr 0 0 0))), (5, .w (.c (.v (.int .i64 jj.1)))), (6, .w (.c (.v (.tree (((atD p1.Funcs i1).Code).map row_AInstr))))), (7, .w (.c (.v (.int .i64 jj.2))))], [some (.bx 27 ((row_AProgram p1).map .v))]⟩ : St)) (j0 := (0, 0)) (St.le_sub ⟨rfl, rfl, rfl, rfl, trivial⟩ ⟨rfl, trivial⟩ rfl) ?_
  rintro n2 again1 ih_again1 ⟨n1, k1⟩
  refine VS.seq ?_
  refine VS.seq ?_
  refine VS.region ?_
  refine X.lk ?_
  refine X.lk ?_
  refine X.lenT ?_
  refine X.lk ?_
  refine X.nil ?_
  refine ES.seq ?_
  refine VS.cond (fun h2 => ?_) (fun h2 => ?_)
  · refine VS.skip ?_
    refine ES.seq ?_
    refine VS.seq ?_
    refine VS.block ?_
    refine VS.seq ?_
    refine VS.region ?_
    refine X.lk ?_
    refine X.lk ?_
    refine X.idxT (fun h3 => ?_)
    refine X.lk ?_
    refine X.lk ?_
    refine X.nil ?_
    refine ES.seq ?_
    refine VS.block ?_
    refine VS.seq ?_
    refine VS.region ?_
    refine X.lk ?_
    refine X.lk ?_
    refine X.nil ?_
    refine ES.seq ?_
    refine VS.cond (fun h4 => ?_) (fun h4 => ?_)
    · refine VS.region ?_
      refine X.lk ?_
      refine X.lk ?_
      refine X.lk ?_
      refine X.idxT (fun h5 => ?_)
      refine X.lk ?_
      refine X.lk ?_
      refine X.ck fun h6 => ?_
      refine X.max ?_
      refine X.lk ?_
      refine X.nil ?_
      refine ES.blkN ?_
      refine ES.blkN ?_
      refine ES.seq ?_
      refine VS.region ?_
      refine X.lk ?_
      refine X.ck fun h7 => ?_
      refine X.lk ?_
      refine X.nil ?_
      exact ES.go ih_again1 ((max n1 (((atD ((atD p1.Funcs i1).Code) k1).A) + 1)), (k1 + 1)) (St.le_sub ⟨rfl, rfl, rfl, rfl, trivial⟩ ⟨rfl, trivial⟩ rfl)
    · refine VS.seq ?_
      refine VS.region ?_
      refine X.lk ?_
      refine X.lk ?_
      refine X.nil ?_
      refine ES.seq ?_
      refine VS.cond (fun h8 => ?_) (fun h8 => ?_)
      · refine VS.drawn ?_
        refine X.lk ?_
        refine X.lk ?_
        refine X.lk ?_
        refine X.lk ?_
        refine X.lk ?_
        refine X.idxT (fun h9 => ?_)
        refine X.lk ?_
        refine X.lk ?_
        refine X.idxT (fun h10 => ?_)
        refine X.lk ?_
        refine X.lk ?_
        refine X.max ?_
        refine X.lk ?_
        refine X.nilD ?_ (by kernel_rfl)
        refine ES.blkN ?_
        refine ES.blkN ?_
        refine ES.seq ?_
        refine VS.region ?_
        refine X.lk ?_
        refine X.ck fun h11 => ?_
        refine X.lk ?_
        refine X.nil ?_
        exact ES.go ih_again1 ((max n1 ((atD p1.Funcs ((atD ((atD p1.Funcs i1).Code) k1).A)).Params)), (k1 + 1)) (St.le_sub ⟨rfl, rfl, rfl, rfl, trivial⟩ ⟨rfl, trivial⟩ rfl)
      · refine VS.skip ?_
        refine ES.blkN ?_
        refine ES.blkN ?_
        refine ES.seq ?_
        refine VS.region ?_
        refine X.lk ?_
        refine X.ck fun h12 => ?_
        refine X.lk ?_
        refine X.nil ?_
        exact ES.go ih_again1 (n1, (k1 + 1)) (St.le_sub ⟨rfl, rfl, rfl, rfl, trivial⟩ ⟨rfl, trivial⟩ rfl)
  · refine VS.exit ?_
    refine ES.thnE ?_
    refine ES.thnE ?_
    refine ES.blkE ?_
    refine ES.seq ?_
    refine VS.seq ?_
    refine VS.region ?_
    refine X.lk ?_
    refine X.ck fun h13 => ?_
    refine X.lk ?_
    refine X.nil ?_
    refine ES.seq ?_
    refine VS.ret ?_
    refine ES.ret ?_
    exact Ret.clo [.c (.v (.int .i64 (n1 * 16)))] ⟨rfl, trivial⟩ trivial
set_option maxHeartbeats 4000000 in
theorem r03_Bound_ok (n1 : Int) : ∀ r : Bool, r03_Bound n1 r → FCalls Try.prog 83 [] [.c (.v (.int .i64 n1))] (.w (.c (.v (.bool r)))) [] [] := by
  refine fnS 9 ?_
  unfold r03_Bound
  refine VS.seq ?_
  refine VS.region ?_
  refine X.lk ?_
  refine X.nil ?_
  refine ES.seq ?_
  refine VS.seq ?_
  refine VS.region ?_
  refine X.lk ?_
  refine X.lk ?_
  refine X.lk ?_
  refine X.bif (b := (decide (0 ≤ n1))) (fun h1 => ?_) (fun h1 => ?_)
  · refine X.gY h1 ?_
    refine X.lk ?_
    refine X.gY h1 ?_
    refine X.lk ?_
    refine X.pT h1 ?_
    refine X.lk ?_
    refine X.nil ?_
    refine ES.seq ?_
    refine VS.ret ?_
    refine ES.ret ?_
    exact Ret.clo [.c (.v (.bool (decide (n1 ≤ 2147483647))))] ⟨rfl, trivial⟩ trivial
  · refine X.gN h1 ?_
    refine X.gN h1 ?_
    refine X.pF h1 ?_
    refine X.lk ?_
    refine X.nil ?_
    refine ES.seq ?_
    refine VS.ret ?_
    refine ES.ret ?_
    exact Ret.clo [.c (.v (.bool false))] ⟨rfl, trivial⟩ trivial
set_option maxHeartbeats 4000000 in
theorem r03_Up_ok (n1 : Int) (align1 : Int) : ∀ r : Int × Int, r03_Up n1 align1 r → FCalls Try.prog 60 [] [.c (.v (.int .i64 n1)), .c (.v (.int .i64 align1))] (.tup [.c (.v (.int .i64 r.1)), .c (.v (.int .i64 r.2))]) [] [] := by
  refine fnS 30 ?_
  unfold r03_Up
  refine VS.seq ?_
  refine VS.region ?_
  refine X.lk ?_
  refine X.lk ?_
  refine X.nil ?_
  refine ES.seq ?_
  refine VS.seq ?_
  refine VS.seq ?_
  refine VS.region ?_
  refine X.lk ?_
  refine X.call true [] [] (r03_Bound_ok n1) (fun x1 => ?_)
  refine X.lk ?_
  refine X.lk ?_
  refine X.bif (b := (!x1)) (fun h1 => ?_) (fun h1 => ?_)
  · refine X.gN h1 ?_
    refine X.gN h1 ?_
    refine X.gN h1 ?_
    refine X.pT h1 ?_
    refine X.nil ?_
    refine ES.seq ?_
    refine VS.condT rfl ?_
    refine VS.seq ?_
    refine VS.region ?_
    refine X.lk ?_
    refine X.lk ?_
    refine X.nil ?_
    refine ES.seq ?_
    refine VS.ret ?_
    refine ES.thnR ?_
    refine ES.ret ?_
    exact Ret.clo [.c (.v (.int .i64 0)), .c (.v (.int .i64 4))] ⟨rfl, rfl, trivial⟩ trivial
  · refine X.gY h1 ?_
    refine X.lk ?_
    refine X.gY h1 ?_
    refine X.call true [] [] (r03_Power_ok align1) (fun x2 => ?_)
    refine X.gY h1 ?_
    refine X.lk ?_
    refine X.pF h1 ?_
    refine X.nil ?_
    refine ES.seq ?_
    refine VS.cond (fun h2 => ?_) (fun h2 => ?_)
    · refine VS.seq ?_
      refine VS.region ?_
      refine X.lk ?_
      refine X.lk ?_
      refine X.nil ?_
      refine ES.seq ?_
      refine VS.ret ?_
      refine ES.thnR ?_
      refine ES.ret ?_
      exact Ret.clo [.c (.v (.int .i64 0)), .c (.v (.int .i64 4))] ⟨rfl, rfl, trivial⟩ trivial
    · refine VS.skip ?_
      refine ES.seq ?_
      refine VS.seq ?_
      refine VS.region ?_
      refine X.lk ?_
      refine X.lk ?_
      refine X.nil ?_
      refine ES.seq ?_
      refine VS.join (fun (m1 : Int) => (⟨[(6, .w (.c (.v (.int .i64 m1))))], []⟩ : St)) ?_ ?_
      · rintro m1
        refine VS.seq ?_
        refine VS.seq ?_
        refine VS.region ?_
        refine X.lk ?_
        refine X.lk ?_
        refine X.nil ?_
        refine ES.seq ?_
        refine VS.cond (fun h3 => ?_) (fun h3 => ?_)
        · refine VS.seq ?_
          refine VS.region ?_
          refine X.lk ?_
          refine X.lk ?_
          refine X.nil ?_
          refine ES.seq ?_
          refine VS.ret ?_
          refine ES.thnR ?_
          refine ES.ret ?_
          exact Ret.clo [.c (.v (.int .i64 0)), .c (.v (.int .i64 9))] ⟨rfl, rfl, trivial⟩ trivial
        · refine VS.skip ?_
          refine ES.seq ?_
          refine VS.seq ?_
          refine VS.region ?_
          refine X.lk ?_
          refine X.lk ?_
          refine X.lk ?_
          refine X.nil ?_
          refine ES.seq ?_
          refine VS.ret ?_
          refine ES.ret ?_
          exact Ret.clo [.c (.v (.int .i64 m1)), .c (.v (.int .i64 0))] ⟨rfl, rfl, trivial⟩ trivial
      · intro k1 ih_k1
        refine VS.seq ?_
        refine VS.region ?_
        refine X.lk ?_
        refine X.lk ?_
        refine X.ck fun h4 => ?_
        refine X.lk ?_
        refine X.nil ?_
        refine ES.seq ?_
        refine VS.cond (fun h5 => ?_) (fun h5 => ?_)
        · refine VS.region ?_
          refine X.lk ?_
          refine X.lk ?_
          refine X.lk ?_
          refine X.ck fun h6 => ?_
          refine X.ck fun h7 => ?_
          refine X.lk ?_
          refine X.ck fun h8 => ?_
          refine X.lk ?_
          refine X.nil ?_
          exact ES.jn ih_k1 ((n1 - (n1 % align1)) + align1) (St.le_sub ⟨rfl, trivial⟩ trivial rfl)
        · refine VS.skip ?_
          exact ES.jn ih_k1 n1 (St.le_sub ⟨rfl, trivial⟩ trivial rfl)
end Go.Proofs.Ytbppgdffochdmaa.Q
