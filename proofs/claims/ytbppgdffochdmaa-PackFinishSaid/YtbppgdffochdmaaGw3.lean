/- Walks of functions: the code does what the lifted text says (written by a program). -/
import Derived.Test.YtbppgdffochdmaaGw2
set_option linter.unusedVariables false
set_option linter.unusedSimpArgs false
set_option maxRecDepth 8000
namespace Go.Proofs.Ytbppgdffochdmaa.Q
open Go.RowKit
set_option maxHeartbeats 4000000 in
theorem r13_Next_ok (f1 : AFunc) (k1 : Int) : ∀ r : List Int, r13_Next f1 k1 r → FCalls Try.prog 140 [] [.agg ((row_AFunc f1).map .v), .c (.v (.int .i64 k1))] (.w (.c (.v (.tree (r.map iRow))))) [] [] := by
  refine fnS 57 ?_
  unfold r13_Next
  refine VS.seq ?_
  refine VS.region ?_
  refine X.box 0 ?_
  refine X.lk ?_
  refine X.nil ?_
  refine ES.seq ?_
  refine VS.seq ?_
  refine VS.seq ?_
  refine VS.region ?_
  refine X.lk ?_
  refine X.lk ?_
  refine X.lk ?_
  refine X.bif (b := (decide (k1 < 0))) (fun h1 => ?_) (fun h1 => ?_)
  · refine X.gN h1 ?_
    refine X.gN h1 ?_
    refine X.gN h1 ?_
    refine X.gN h1 ?_
    refine X.gN h1 ?_
    refine X.pT h1 ?_
    refine X.nil ?_
    refine ES.seq ?_
    refine VS.condT rfl ?_
    refine VS.seq ?_
    refine VS.region ?_
    refine X.lk ?_
    refine X.nil ?_
    refine ES.seq ?_
    refine VS.ret ?_
    refine ES.thnR ?_
    refine ES.ret ?_
    exact Ret.weak (St.le_nil _ 4 rfl) (Ret.clo [.c (.v (.tree (([] : List Int).map iRow)))] ⟨rfl, trivial⟩ trivial)
  · refine X.gY h1 ?_
    refine X.lk ?_
    refine X.gY h1 ?_
    refine X.lk ?_
    refine X.gY h1 ?_
    refine X.lk ?_
    refine X.gY h1 ?_
    refine X.lenT ?_
    refine X.gY h1 ?_
    refine X.lk ?_
    refine X.pF h1 ?_
    refine X.nil ?_
    refine ES.seq ?_
    refine VS.cond (fun h2 => ?_) (fun h2 => ?_)
    · refine VS.seq ?_
      refine VS.region ?_
      refine X.lk ?_
      refine X.nil ?_
      refine ES.seq ?_
      refine VS.ret ?_
      refine ES.thnR ?_
      refine ES.ret ?_
      exact Ret.weak (St.le_nil _ 4 rfl) (Ret.clo [.c (.v (.tree (([] : List Int).map iRow)))] ⟨rfl, trivial⟩ trivial)
    · refine VS.skip ?_
      refine ES.seq ?_
      refine VS.seq ?_
      refine VS.region ?_
      refine X.lk ?_
      refine X.lk ?_
      refine X.lk ?_
      refine X.idxT (fun h3 => ?_)
      refine X.lk ?_
      refine X.alloc 1 ?_
      refine X.st ?_
      refine X.nil ?_
      refine ES.seq ?_
      refine VS.seq ?_
      refine VS.seq ?_
      refine VS.region ?_
      refine X.lk ?_
      refine X.lk ?_
      refine X.nil ?_
      refine ES.seq ?_
      refine VS.block ?_
      refine VS.seq ?_
      refine VS.region ?_
      refine X.lk ?_
      refine X.lk ?_
      refine X.nil ?_
      refine ES.seq ?_
      refine VS.cond (fun h4 => ?_) (fun h4 => ?_)
      · refine VS.seq ?_
        refine VS.region ?_
        refine X.lk ?_
        refine X.lk ?_
        refine X.bs 2 ([(atD f1.Code k1).A] : List Int) iRow ?_
        refine X.lk ?_
        refine X.nil ?_
        refine ES.seq ?_
        refine VS.ret ?_
        refine ES.blkR ?_
        refine ES.thnR ?_
        refine ES.ret ?_
        exact Ret.weak (St.le_tree _ 4 2 rfl rfl) (Ret.clo [.c (.v (.tree (([(atD f1.Code k1).A] : List Int).map iRow)))] ⟨rfl, trivial⟩ trivial)
      · refine VS.join (fun (x1 : Bool) => (⟨[(1, .w (.c (.v (.int .i64 k1)))), (5, .w (.c (.ptr 0 0 0))), (21, .w (.c (.v (.int .i64 ((atD f1.Code k1).Op))))), (27, .w (.c (.v (.bool x1))))], [some (.bx 66 ((row_AInstr (atD f1.Code k1)).map .v))]⟩ : St)) ?_ ?_
        · rintro x1
          refine VS.cond (fun h5 => ?_) (fun h5 => ?_)
          · refine VS.seq ?_
            refine VS.region ?_
            refine X.lk ?_
            refine X.nil ?_
            refine ES.seq ?_
            refine VS.ret ?_
            refine ES.blkR ?_
            refine ES.thnR ?_
            refine ES.ret ?_
            exact Ret.weak (St.le_nil _ 4 rfl) (Ret.clo [.c (.v (.tree (([] : List Int).map iRow)))] ⟨rfl, trivial⟩ trivial)
          · refine VS.seq ?_
            refine VS.region ?_
            refine X.lk ?_
            refine X.lk ?_
            refine X.nil ?_
            refine ES.seq ?_
            refine VS.cond (fun h6 => ?_) (fun h6 => ?_)
            · refine VS.block ?_
              refine VS.seq ?_
              refine VS.region ?_
              refine X.lk ?_
              refine X.lk ?_
              refine X.lk ?_
              refine X.ck fun h7 => ?_
              refine X.lk ?_
              refine X.lk ?_
              refine X.nil ?_
              refine ES.seq ?_
              refine VS.cond (fun h8 => ?_) (fun h8 => ?_)
              · refine VS.seq ?_
                refine VS.region ?_
                refine X.lk ?_
                refine X.lk ?_
                refine X.lk ?_
                refine X.ck fun h9 => ?_
                refine X.bs 1 ([(atD f1.Code k1).B, (k1 + 1)] : List Int) iRow ?_
                refine X.lk ?_
                refine X.nil ?_
                refine ES.seq ?_
                refine VS.ret ?_
                refine ES.blkR ?_
                refine ES.blkR ?_
                refine ES.thnR ?_
                refine ES.ret ?_
                exact Ret.weak (St.le_tree _ 4 1 rfl rfl) (Ret.clo [.c (.v (.tree (([(atD f1.Code k1).B, (k1 + 1)] : List Int).map iRow)))] ⟨rfl, trivial⟩ trivial)
              · refine VS.seq ?_
                refine VS.region ?_
                refine X.lk ?_
                refine X.lk ?_
                refine X.lk ?_
                refine X.ck fun h10 => ?_
                refine X.lk ?_
                refine X.lk ?_
                refine X.nil ?_
                refine ES.seq ?_
                refine VS.cond (fun h11 => ?_) (fun h11 => ?_)
                · refine VS.seq ?_
                  refine VS.region ?_
                  refine X.lk ?_
                  refine X.ck fun h12 => ?_
                  refine X.lk ?_
                  refine X.lk ?_
                  refine X.bs 1 ([(k1 + 1), (atD f1.Code k1).B] : List Int) iRow ?_
                  refine X.lk ?_
                  refine X.nil ?_
                  refine ES.seq ?_
                  refine VS.ret ?_
                  refine ES.blkR ?_
                  refine ES.blkR ?_
                  refine ES.thnR ?_
                  refine ES.ret ?_
                  exact Ret.weak (St.le_tree _ 4 1 rfl rfl) (Ret.clo [.c (.v (.tree (([(k1 + 1), (atD f1.Code k1).B] : List Int).map iRow)))] ⟨rfl, trivial⟩ trivial)
                · refine VS.skip ?_
                  refine ES.blkN ?_
                  refine ES.blkN ?_
                  refine ES.seq ?_
                  refine VS.seq ?_
                  refine VS.region ?_
                  refine X.lk ?_
                  refine X.ck fun h13 => ?_
                  refine X.bs 1 ([(k1 + 1)] : List Int) iRow ?_
                  refine X.lk ?_
                  refine X.nil ?_
                  refine ES.seq ?_
                  refine VS.ret ?_
                  refine ES.ret ?_
                  exact Ret.weak (St.le_tree _ 4 1 rfl rfl) (Ret.clo [.c (.v (.tree (([(k1 + 1)] : List Int).map iRow)))] ⟨rfl, trivial⟩ trivial)
            · refine VS.skip ?_
              refine ES.blkN ?_
              refine ES.seq ?_
              refine VS.seq ?_
              refine VS.region ?_
              refine X.lk ?_
              refine X.ck fun h14 => ?_
              refine X.bs 1 ([(k1 + 1)] : List Int) iRow ?_
              refine X.lk ?_
              refine X.nil ?_
              refine ES.seq ?_
              refine VS.ret ?_
              refine ES.ret ?_
              exact Ret.weak (St.le_tree _ 4 1 rfl rfl) (Ret.clo [.c (.v (.tree (([(k1 + 1)] : List Int).map iRow)))] ⟨rfl, trivial⟩ trivial)
        · intro k2 ih_k2
          refine VS.seq ?_
          refine VS.region ?_
          refine X.lk ?_
          refine X.lk ?_
          refine X.nil ?_
          refine ES.seq ?_
          refine VS.cond (fun h15 => ?_) (fun h15 => ?_)
          · refine VS.skip ?_
            exact ES.jn ih_k2 (decide (((atD f1.Code k1).Op) = 23)) ((St.le_drop _ 0 (Nat.le_of_ble_eq_true rfl)).trans ((St.le_mvB _ 1 0 rfl rfl rfl rfl).trans (St.le_sub ⟨rfl, rfl, rfl, rfl, trivial⟩ ⟨rfl, trivial⟩ rfl)))
          · refine VS.region ?_
            refine X.lk ?_
            refine X.lk ?_
            refine X.nil ?_
            exact ES.jn ih_k2 (decide (((atD f1.Code k1).Op) = 24)) ((St.le_drop _ 0 (Nat.le_of_ble_eq_true rfl)).trans ((St.le_mvB _ 1 0 rfl rfl rfl rfl).trans (St.le_sub ⟨rfl, rfl, rfl, rfl, trivial⟩ ⟨rfl, trivial⟩ rfl)))
set_option maxHeartbeats 4000000 in
theorem r15_Removable_ok (x1 : AInstr) : ∀ r : Bool, r15_Removable x1 r → FCalls Try.prog 139 [] [.agg ((row_AInstr x1).map .v)] (.w (.c (.v (.bool r)))) [] [] := by
  refine fnS 11 ?_
  unfold r15_Removable
  refine VS.seq ?_
  refine VS.region ?_
  refine X.box 0 ?_
  refine X.lk ?_
  refine X.nil ?_
  refine ES.seq ?_
  refine VS.seq ?_
  refine VS.region ?_
  refine X.lk ?_
  refine X.lk ?_
  refine X.lk ?_
  refine X.lk ?_
  refine X.bif (b := (decide (x1.Op = 16))) (fun h1 => ?_) (fun h1 => ?_)
  · refine X.gN h1 ?_
    refine X.gN h1 ?_
    refine X.gN h1 ?_
    refine X.pT h1 ?_
    refine X.lk ?_
    refine X.nil ?_
    refine ES.seq ?_
    refine VS.ret ?_
    refine ES.ret ?_
    exact Ret.clo [.c (.v (.bool true))] ⟨rfl, trivial⟩ trivial
  · refine X.gY h1 ?_
    refine X.lk ?_
    refine X.gY h1 ?_
    refine X.lk ?_
    refine X.gY h1 ?_
    refine X.lk ?_
    refine X.pF h1 ?_
    refine X.lk ?_
    refine X.nil ?_
    refine ES.seq ?_
    refine VS.ret ?_
    refine ES.ret ?_
    exact Ret.clo [.c (.v (.bool (decide (x1.Op = 17))))] ⟨rfl, trivial⟩ trivial
set_option maxHeartbeats 4000000 in
theorem r15_Defines_ok (x1 : AInstr) : ∀ r : Int × Bool, r15_Defines x1 r → FCalls Try.prog 110 [] [.agg ((row_AInstr x1).map .v)] (.tup [.c (.v (.int .i64 r.1)), .c (.v (.bool r.2))]) [] [] := by
  refine fnS 8 ?_
  unfold r15_Defines
  refine VS.seq ?_
  refine VS.region ?_
  refine X.box 0 ?_
  refine X.lk ?_
  refine X.lk ?_
  refine X.nil ?_
  refine ES.seq ?_
  refine VS.seq ?_
  refine VS.seq ?_
  refine VS.region ?_
  refine X.lk ?_
  refine X.call true [] [] (r15_Removable_ok x1) (fun x2 => ?_)
  refine X.nil ?_
  refine ES.seq ?_
  refine VS.cond (fun h1 => ?_) (fun h1 => ?_)
  · refine VS.seq ?_
    refine VS.region ?_
    refine X.lk ?_
    refine X.lk ?_
    refine X.lk ?_
    refine X.lk ?_
    refine X.nil ?_
    refine ES.seq ?_
    refine VS.ret ?_
    refine ES.thnR ?_
    refine ES.ret ?_
    exact Ret.clo [.c (.v (.int .i64 x1.A)), .c (.v (.bool true))] ⟨rfl, rfl, trivial⟩ trivial
  · refine VS.skip ?_
    refine ES.seq ?_
    refine VS.seq ?_
    refine VS.region ?_
    refine X.lk ?_
    refine X.lk ?_
    refine X.nil ?_
    refine ES.seq ?_
    refine VS.ret ?_
    refine ES.ret ?_
    exact Ret.clo [.c (.v (.int .i64 0)), .c (.v (.bool false))] ⟨rfl, rfl, trivial⟩ trivial
set_option maxHeartbeats 4000000 in
theorem r04_Remove_ok (s1 : List Int) (n1 : Int) : ∀ r : List Int, r04_Remove s1 n1 r → FCalls Try.prog 155 [] [.c (.v (.tree (s1.map iRow))), .c (.v (.int .i64 n1))] (.w (.c (.v (.tree (r.map iRow))))) [] [] := by
  refine fnS 27 ?_
  unfold r04_Remove
  refine VS.seq ?_
  refine VS.region ?_
  refine X.lk ?_
  refine X.nil ?_
  refine ES.seq ?_
  refine VS.seq ?_
  refine VS.region ?_
  refine X.lk ?_
  refine X.nil ?_
  refine ES.seq ?_
  refine VS.seq ?_
  refine VS.seq ?_
  refine VS.region ?_
  refine X.lk ?_
  refine X.nil ?_
  refine ES.seq ?_
  refine VS.block ?_
  refine VS.loop (fun jj : Int × List Int => (⟨[(0, .w (.c (.v (.tree (s1.map iRow))))), (1, .w (.c (.v (.int .i64 n1)))), (5, .w (.c (.mref 0))), (6, .w (.c (.v (.int .i64 jj.1))))], [some (.sl 3 1 false (jj.2.map iRow))]⟩ : St)) (j0 := (0, ([] : List Int))) ((St.le_keep _ [0, 1, 5, 6]).trans ((St.le_adopt _ 5 0 3 1 rfl rfl).trans (St.le_sub ⟨rfl, rfl, rfl, rfl, trivial⟩ ⟨rfl, trivial⟩ rfl))) ?_
  rintro n2 again1 ih_again1 ⟨i1, out1⟩
  refine VS.seq ?_
  refine VS.seq ?_
  refine VS.region ?_
  refine X.lk ?_
  refine X.lk ?_
  refine X.lenT ?_
  refine X.lk ?_
  refine X.nil ?_
  refine ES.seq ?_
  refine VS.cond (fun h1 => ?_) (fun h1 => ?_)
  · refine VS.skip ?_
    refine ES.seq ?_
    refine VS.seq ?_
    refine VS.block ?_
    refine VS.seq ?_
    refine VS.region ?_
    refine X.lk ?_
    refine X.lk ?_
    refine X.idxT (fun h2 => ?_)
    refine X.lk ?_
    refine X.lk ?_
    refine X.lk ?_
    refine X.nil ?_
    refine ES.seq ?_
    refine VS.cond (fun h3 => ?_) (fun h3 => ?_)
    · refine VS.region ?_
      refine X.lk ?_
      refine X.lk ?_
      refine X.lk ?_
      refine X.idxT (fun h4 => ?_)
      refine X.lk ?_
      refine X.bs 1 ([(atD s1 i1)] : List Int) iRow ?_
      refine X.appMM 2 (l := out1) (l' := ([(atD s1 i1)] : List Int)) (fun h5 => ?_)
      refine X.lk ?_
      refine X.nil ?_
      refine ES.blkN ?_
      refine ES.seq ?_
      refine VS.region ?_
      refine X.lk ?_
      refine X.ck fun h6 => ?_
      refine X.lk ?_
      refine X.nil ?_
      exact ES.go ih_again1 ((i1 + 1), (out1 ++ ([(atD s1 i1)] : List Int))) ((St.le_mvB _ 2 0 rfl rfl rfl rfl).trans (St.le_sub ⟨rfl, rfl, rfl, rfl, trivial⟩ ⟨rfl, trivial⟩ rfl))
    · refine VS.skip ?_
      refine ES.blkN ?_
      refine ES.seq ?_
      refine VS.region ?_
      refine X.lk ?_
      refine X.ck fun h7 => ?_
      refine X.lk ?_
      refine X.nil ?_
      exact ES.go ih_again1 ((i1 + 1), out1) (St.le_sub ⟨rfl, rfl, rfl, rfl, trivial⟩ ⟨rfl, trivial⟩ rfl)
  · refine VS.exit ?_
    refine ES.thnE ?_
    refine ES.thnE ?_
    refine ES.blkE ?_
    refine ES.seq ?_
    refine VS.seq ?_
    refine VS.region ?_
    refine X.lk ?_
    refine X.lk ?_
    refine X.nil ?_
    refine ES.seq ?_
    refine VS.ret ?_
    refine ES.ret ?_
    exact Ret.weak (St.le_tree _ 4 0 rfl rfl) (Ret.clo [.c (.v (.tree (out1.map iRow)))] ⟨rfl, trivial⟩ trivial)
set_option maxHeartbeats 4000000 in
theorem r15_Uses_ok (x1 : AInstr) : ∀ r : List Int, r15_Uses x1 r → FCalls Try.prog 144 [] [.agg ((row_AInstr x1).map .v)] (.w (.c (.v (.tree (r.map iRow))))) [] [] := by
  refine fnS 14 ?_
  unfold r15_Uses
  refine VS.seq ?_
  refine VS.region ?_
  refine X.box 0 ?_
  refine X.lk ?_
  refine X.nil ?_
  refine ES.seq ?_
  refine VS.seq ?_
  refine VS.seq ?_
  refine VS.region ?_
  refine X.lk ?_
  refine X.lk ?_
  refine X.lk ?_
  refine X.lk ?_
  refine X.bif (b := (decide (x1.Op = 15))) (fun h1 => ?_) (fun h1 => ?_)
  · refine X.gN h1 ?_
    refine X.gN h1 ?_
    refine X.gN h1 ?_
    refine X.pT h1 ?_
    refine X.nil ?_
    refine ES.seq ?_
    refine VS.condT rfl ?_
    refine VS.seq ?_
    refine VS.region ?_
    refine X.lk ?_
    refine X.lk ?_
    refine X.bs 1 ([x1.B] : List Int) iRow ?_
    refine X.lk ?_
    refine X.nil ?_
    refine ES.seq ?_
    refine VS.ret ?_
    refine ES.thnR ?_
    refine ES.ret ?_
    exact Ret.weak (St.le_tree _ 2 1 rfl rfl) (Ret.clo [.c (.v (.tree (([x1.B] : List Int).map iRow)))] ⟨rfl, trivial⟩ trivial)
  · refine X.gY h1 ?_
    refine X.lk ?_
    refine X.gY h1 ?_
    refine X.lk ?_
    refine X.gY h1 ?_
    refine X.lk ?_
    refine X.pF h1 ?_
    refine X.nil ?_
    refine ES.seq ?_
    refine VS.cond (fun h2 => ?_) (fun h2 => ?_)
    · refine VS.seq ?_
      refine VS.region ?_
      refine X.lk ?_
      refine X.lk ?_
      refine X.bs 1 ([x1.B] : List Int) iRow ?_
      refine X.lk ?_
      refine X.nil ?_
      refine ES.seq ?_
      refine VS.ret ?_
      refine ES.thnR ?_
      refine ES.ret ?_
      exact Ret.weak (St.le_tree _ 2 1 rfl rfl) (Ret.clo [.c (.v (.tree (([x1.B] : List Int).map iRow)))] ⟨rfl, trivial⟩ trivial)
    · refine VS.skip ?_
      refine ES.seq ?_
      refine VS.seq ?_
      refine VS.region ?_
      refine X.lk ?_
      refine X.nil ?_
      refine ES.seq ?_
      refine VS.ret ?_
      refine ES.ret ?_
      exact Ret.weak (St.le_nil _ 2 rfl) (Ret.clo [.c (.v (.tree (([] : List Int).map iRow)))] ⟨rfl, trivial⟩ trivial)
set_option maxHeartbeats 4000000 in
theorem r04_good_ok (n1 : Int) : ∀ r : Bool, r04_good n1 r → FCalls Try.prog 113 [] [.c (.v (.int .i64 n1))] (.w (.c (.v (.bool r)))) [] [] := by
  refine fnS 9 ?_
  unfold r04_good
  refine VS.seq ?_
  refine VS.region ?_
  refine X.lk ?_
  refine X.nil ?_
  refine ES.seq ?_
  refine VS.seq ?_
  refine VS.region ?_
  refine X.lk ?_
  refine X.lk ?_
  refine X.lk ?_
  refine X.bif (b := (decide (0 ≤ n1))) (fun h1 => ?_) (fun h1 => ?_)
  · refine X.gY h1 ?_
    refine X.lk ?_
    refine X.gY h1 ?_
    refine X.lk ?_
    refine X.pT h1 ?_
    refine X.lk ?_
    refine X.nil ?_
    refine ES.seq ?_
    refine VS.ret ?_
    refine ES.ret ?_
    exact Ret.clo [.c (.v (.bool (decide (n1 < 512))))] ⟨rfl, trivial⟩ trivial
  · refine X.gN h1 ?_
    refine X.gN h1 ?_
    refine X.pF h1 ?_
    refine X.lk ?_
    refine X.nil ?_
    refine ES.seq ?_
    refine VS.ret ?_
    refine ES.ret ?_
    exact Ret.clo [.c (.v (.bool false))] ⟨rfl, trivial⟩ trivial
set_option maxHeartbeats 4000000 in
theorem r04_Add_ok (s1 : List Int) (n1 : Int) : ∀ r : List Int, r04_Add s1 n1 r → FCalls Try.prog 90 [] [.c (.v (.tree (s1.map iRow))), .c (.v (.int .i64 n1))] (.w (.c (.v (.tree (r.map iRow))))) [] [] := by
  refine fnS 51 ?_
  unfold r04_Add
  refine VS.seq ?_
  refine VS.region ?_
  refine X.lk ?_
  refine X.nil ?_
  refine ES.seq ?_
  refine VS.seq ?_
  refine VS.region ?_
  refine X.lk ?_
  refine X.nil ?_
  refine ES.seq ?_
  refine VS.seq ?_
  refine VS.region ?_
  refine X.lk ?_
  refine X.call true [] [] (r04_good_ok n1) (fun x1 => ?_)
  refine X.lk ?_
  refine X.lk ?_
  refine X.nil ?_
  refine ES.seq ?_
  refine VS.seq ?_
  refine VS.seq ?_
  refine VS.region ?_
  refine X.lk ?_
  refine X.nil ?_
  refine ES.seq ?_
  refine VS.block ?_
  refine VS.loop (fun jj : Bool × Int × List Int => (⟨[(0, .w (.c (.v (.tree (s1.map iRow))))), (1, .w (.c (.v (.int .i64 n1)))), (5, .w (.c (.mref 0))), (6, .w (.c (.v (.bool jj.1)))), (7, .w (.c (.v (.int .i64 jj.2.1))))], [some (.sl 3 1 false (jj.2.2.map iRow))]⟩ : St)) (j0 := ((!x1), 0, ([] : List Int))) ((St.le_keep _ [0, 1, 5, 6, 7]).trans ((St.le_adopt _ 5 0 3 1 rfl rfl).trans (St.le_sub ⟨rfl, rfl, rfl, rfl, rfl, trivial⟩ ⟨rfl, trivial⟩ rfl))) ?_
  rintro n2 again1 ih_again1 ⟨done1, i1, out1⟩
  refine VS.seq ?_
  refine VS.seq ?_
  refine VS.region ?_
  refine X.lk ?_
  refine X.lk ?_
  refine X.lenT ?_
  refine X.lk ?_
  refine X.nil ?_
  refine ES.seq ?_
  refine VS.cond (fun h1 => ?_) (fun h1 => ?_)
  · refine VS.skip ?_
    refine ES.seq ?_
    refine VS.seq ?_
    refine VS.block ?_
    refine VS.join (fun jj : Bool × List Int => (⟨[(0, .w (.c (.v (.tree (s1.map iRow))))), (1, .w (.c (.v (.int .i64 n1)))), (5, .w (.c (.mref 0))), (6, .w (.c (.v (.bool jj.1)))), (7, .w (.c (.v (.int .i64 i1))))], [some (.sl 3 1 false (jj.2.map iRow))]⟩ : St)) ?_ ?_
    · rintro ⟨done2, out2⟩
      refine VS.region ?_
      refine X.lk ?_
      refine X.lk ?_
      refine X.lk ?_
      refine X.idxT (fun h2 => ?_)
      refine X.lk ?_
      refine X.bs 1 ([(atD s1 i1)] : List Int) iRow ?_
      refine X.appMM 2 (l := out2) (l' := ([(atD s1 i1)] : List Int)) (fun h3 => ?_)
      refine X.lk ?_
      refine X.nil ?_
      refine ES.blkN ?_
      refine ES.seq ?_
      refine VS.region ?_
      refine X.lk ?_
      refine X.ck fun h4 => ?_
      refine X.lk ?_
      refine X.nil ?_
      exact ES.go ih_again1 (done2, (i1 + 1), (out2 ++ ([(atD s1 i1)] : List Int))) ((St.le_mvB _ 2 0 rfl rfl rfl rfl).trans (St.le_sub ⟨rfl, rfl, rfl, rfl, rfl, trivial⟩ ⟨rfl, trivial⟩ rfl))
    · intro k1 ih_k1
      refine VS.seq ?_
      refine VS.region ?_
      refine X.lk ?_
      refine X.lk ?_
      refine X.lk ?_
      refine X.bif (b := (!done1)) (fun h5 => ?_) (fun h5 => ?_)
      · refine X.gY h5 ?_
        refine X.lk ?_
        refine X.gY h5 ?_
        refine X.lk ?_
        refine X.gY h5 ?_
        refine X.idxT (fun h6 => ?_)
        refine X.gY h5 ?_
        refine X.lk ?_
        refine X.gY h5 ?_
        refine X.lk ?_
        refine X.gY h5 ?_
        refine X.lk ?_
        refine X.pT h5 ?_
        refine X.nil ?_
        refine ES.seq ?_
        refine VS.cond (fun h7 => ?_) (fun h7 => ?_)
        · refine VS.seq ?_
          refine VS.seq ?_
          refine VS.region ?_
          refine X.lk ?_
          refine X.lk ?_
          refine X.idxT (fun h8 => ?_)
          refine X.lk ?_
          refine X.lk ?_
          refine X.lk ?_
          refine X.nil ?_
          refine ES.seq ?_
          refine VS.cond (fun h9 => ?_) (fun h9 => ?_)
          · refine VS.region ?_
            refine X.lk ?_
            refine X.lk ?_
            refine X.bs 1 ([n1] : List Int) iRow ?_
            refine X.appMM 2 (l := out1) (l' := ([n1] : List Int)) (fun h10 => ?_)
            refine X.lk ?_
            refine X.nil ?_
            refine ES.seq ?_
            refine VS.region ?_
            refine X.lk ?_
            refine X.nil ?_
            exact ES.jn ih_k1 (true, (out1 ++ ([n1] : List Int))) ((St.le_mvB _ 2 0 rfl rfl rfl rfl).trans (St.le_sub ⟨rfl, rfl, rfl, rfl, rfl, trivial⟩ ⟨rfl, trivial⟩ rfl))
          · refine VS.skip ?_
            refine ES.seq ?_
            refine VS.region ?_
            refine X.lk ?_
            refine X.nil ?_
            exact ES.jn ih_k1 (true, out1) (St.le_sub ⟨rfl, rfl, rfl, rfl, rfl, trivial⟩ ⟨rfl, trivial⟩ rfl)
        · refine VS.skip ?_
          exact ES.jn ih_k1 (done1, out1) (St.le_sub ⟨rfl, rfl, rfl, rfl, rfl, trivial⟩ ⟨rfl, trivial⟩ rfl)
      · refine X.gN h5 ?_
        refine X.gN h5 ?_
        refine X.gN h5 ?_
        refine X.gN h5 ?_
        refine X.gN h5 ?_
        refine X.gN h5 ?_
        refine X.pF h5 ?_
        refine X.nil ?_
        refine ES.seq ?_
        refine VS.condF rfl ?_
        refine VS.skip ?_
        exact ES.jn ih_k1 (done1, out1) (St.le_sub ⟨rfl, rfl, rfl, rfl, rfl, trivial⟩ ⟨rfl, trivial⟩ rfl)
  · refine VS.exit ?_
    refine ES.thnE ?_
    refine ES.thnE ?_
    refine ES.blkE ?_
    refine ES.seq ?_
    refine VS.seq ?_
    refine VS.seq ?_
    refine VS.region ?_
    refine X.lk ?_
    refine X.lk ?_
    refine X.nil ?_
    refine ES.seq ?_
    refine VS.cond (fun h11 => ?_) (fun h11 => ?_)
    · refine VS.region ?_
      refine X.lk ?_
      refine X.lk ?_
      refine X.bs 1 ([n1] : List Int) iRow ?_
      refine X.appMM 2 (l := out1) (l' := ([n1] : List Int)) (fun h12 => ?_)
      refine X.lk ?_
      refine X.nil ?_
      refine ES.seq ?_
      refine VS.seq ?_
      refine VS.region ?_
      refine X.lk ?_
      refine X.lk ?_
      refine X.nil ?_
      refine ES.seq ?_
      refine VS.ret ?_
      refine ES.ret ?_
      exact Ret.weak (St.le_tree _ 4 2 rfl rfl) (Ret.clo [.c (.v (.tree ((out1 ++ ([n1] : List Int)).map iRow)))] ⟨rfl, trivial⟩ trivial)
    · refine VS.skip ?_
      refine ES.seq ?_
      refine VS.seq ?_
      refine VS.region ?_
      refine X.lk ?_
      refine X.lk ?_
      refine X.nil ?_
      refine ES.seq ?_
      refine VS.ret ?_
      refine ES.ret ?_
      exact Ret.weak (St.le_tree _ 4 0 rfl rfl) (Ret.clo [.c (.v (.tree (out1.map iRow)))] ⟨rfl, trivial⟩ trivial)
set_option maxHeartbeats 4000000 in
theorem r04_Union_ok (a1 : List Int) (b1 : List Int) : ∀ r : List Int, r04_Union a1 b1 r → FCalls Try.prog 141 [] [.c (.v (.tree (a1.map iRow))), .c (.v (.tree (b1.map iRow)))] (.w (.c (.v (.tree (r.map iRow))))) [] [] := by
  refine fnS 22 ?_
  unfold r04_Union
  refine VS.seq ?_
  refine VS.region ?_
  refine X.lk ?_
  refine X.nil ?_
  refine ES.seq ?_
  refine VS.seq ?_
  refine VS.region ?_
  refine X.lk ?_
  refine X.appNT 0 (l' := a1) (fun h1 => ?_)
  refine X.lk ?_
  refine X.nil ?_
  refine ES.seq ?_
  refine VS.seq ?_
  refine VS.seq ?_
  refine VS.region ?_
  refine X.lk ?_
  refine X.nil ?_
  refine ES.seq ?_
  refine VS.block ?_
  refine VS.loop (fun jj : List Int × Int => (⟨[(1, .w (.c (.v (.tree (b1.map iRow))))), (5, .w (.c (.v (.tree (jj.1.map iRow))))), (6, .w (.c (.v (.int .i64 jj.2))))], []⟩ : St)) (j0 := (a1, 0)) ((St.le_tree _ 5 0 rfl rfl).trans (St.le_sub ⟨rfl, rfl, rfl, trivial⟩ trivial rfl)) ?_
  rintro n1 again1 ih_again1 ⟨out1, i1⟩
  refine VS.seq ?_
  refine VS.seq ?_
  refine VS.region ?_
  refine X.lk ?_
  refine X.lk ?_
  refine X.lenT ?_
  refine X.lk ?_
  refine X.nil ?_
  refine ES.seq ?_
  refine VS.cond (fun h2 => ?_) (fun h2 => ?_)
  · refine VS.skip ?_
    refine ES.seq ?_
    refine VS.seq ?_
    refine VS.block ?_
    refine VS.region ?_
    refine X.lk ?_
    refine X.lk ?_
    refine X.lk ?_
    refine X.idxT (fun h3 => ?_)
    refine X.lk ?_
    refine X.call true [] [] (r04_Add_ok out1 (atD b1 i1)) (fun x1 => ?_)
    refine X.lk ?_
    refine X.nil ?_
    refine ES.blkN ?_
    refine ES.seq ?_
    refine VS.region ?_
    refine X.lk ?_
    refine X.ck fun h4 => ?_
    refine X.lk ?_
    refine X.nil ?_
    exact ES.go ih_again1 (x1, (i1 + 1)) (St.le_sub ⟨rfl, rfl, rfl, trivial⟩ trivial rfl)
  · refine VS.exit ?_
    refine ES.thnE ?_
    refine ES.thnE ?_
    refine ES.blkE ?_
    refine ES.seq ?_
    refine VS.seq ?_
    refine VS.region ?_
    refine X.lk ?_
    refine X.lk ?_
    refine X.nil ?_
    refine ES.seq ?_
    refine VS.ret ?_
    refine ES.ret ?_
    exact Ret.clo [.c (.v (.tree (out1.map iRow)))] ⟨rfl, trivial⟩ trivial
set_option maxHeartbeats 4000000 in
theorem r15_In_ok (x1 : AInstr) (out1 : List Int) : ∀ r : List Int, r15_In x1 out1 r → FCalls Try.prog 142 [] [.agg ((row_AInstr x1).map .v), .c (.v (.tree (out1.map iRow)))] (.w (.c (.v (.tree (r.map iRow))))) [] [] := by
  refine fnS 20 ?_
  unfold r15_In
  refine VS.seq ?_
  refine VS.region ?_
  refine X.box 0 ?_
  refine X.lk ?_
  refine X.nil ?_
  refine ES.seq ?_
  refine VS.join (fun (out2 : List Int) => (⟨[(1, .w (.c (.v (.tree (out2.map iRow))))), (2, .w (.c (.ptr 0 0 0)))], [some (.bx 66 ((row_AInstr x1).map .v))]⟩ : St)) ?_ ?_
  · rintro out2
    refine VS.seq ?_
    refine VS.region ?_
    refine X.lk ?_
    refine X.lk ?_
    refine X.call true [] [] (r15_Uses_ok x1) (fun x2 => ?_)
    refine X.call true [] [] (r04_Union_ok out2 x2) (fun x3 => ?_)
    refine X.lk ?_
    refine X.nil ?_
    refine ES.seq ?_
    refine VS.ret ?_
    refine ES.ret ?_
    exact Ret.clo [.c (.v (.tree (x3.map iRow)))] ⟨rfl, trivial⟩ trivial
  · intro k1 ih_k1
    refine VS.seq ?_
    refine VS.region ?_
    refine X.lk ?_
    refine X.call true [] [] (r15_Defines_ok x1) (fun x4 => ?_)
    refine X.lk ?_
    refine X.lk ?_
    refine X.lk ?_
    refine X.lk ?_
    refine X.lk ?_
    refine X.nil ?_
    refine ES.seq ?_
    refine VS.seq ?_
    refine VS.region ?_
    refine X.lk ?_
    refine X.nil ?_
    refine ES.seq ?_
    refine VS.cond (fun h1 => ?_) (fun h1 => ?_)
    · refine VS.region ?_
      refine X.lk ?_
      refine X.lk ?_
      refine X.call true [] [] (r04_Remove_ok out1 x4.1) (fun x5 => ?_)
      refine X.lk ?_
      refine X.nil ?_
      exact ES.jn ih_k1 x5 (St.le_sub ⟨rfl, rfl, trivial⟩ ⟨rfl, trivial⟩ rfl)
    · refine VS.skip ?_
      exact ES.jn ih_k1 out1 (St.le_sub ⟨rfl, rfl, trivial⟩ ⟨rfl, trivial⟩ rfl)
set_option maxHeartbeats 4000000 in
theorem r16_Step_ok (f1 : AFunc) (l1 : ALive) : ∀ r : ALive, r16_Step f1 l1 r → FCalls Try.prog 111 [] [.agg ((row_AFunc f1).map .v), .agg ((row_ALive l1).map .v)] (.w (.agg ((row_ALive r).map .v))) [] [] := by
  refine fnS 57 ?_
  unfold r16_Step
  refine VS.seq ?_
  refine VS.region ?_
  refine X.box 0 ?_
  refine X.box 1 ?_
  refine X.alloc 2 ?_
  refine X.nil ?_
  refine ES.seq ?_
  refine VS.seq ?_
  refine VS.region ?_
  refine X.lk ?_
  refine X.lk ?_
  refine X.lenT ?_
  refine X.make 3 (α := List Int) (sR iRow) (fun h1 => ?_)
  refine X.build ?_
  refine X.alloc 4 ?_
  refine X.st ?_
  refine X.nil ?_
  refine ES.seq ?_
  refine VS.seq ?_
  refine VS.seq ?_
  refine VS.region ?_
  refine X.lk ?_
  refine X.nil ?_
  refine ES.seq ?_
  refine VS.block ?_
  refine VS.loop (fun jj : Int × List (List Int) => (⟨[(2, .w (.c (.ptr 0 0 0))), (3, .w (.c (.ptr 1 0 0))), (4, .w (.c (.ptr 2 0 0))), (5, .w (.c (.ptr 3 0 0))), (6, .w (.c (.v (.int .i64 jj.1))))], [some (.bx 35 ((row_AFunc f1).map .v)), some (.bx 86 ((row_ALive l1).map .v)), some (.bx 86 [.v (.tree (([] : List (List Int)).map (sR iRow)))]), some (.bx 86 [.mref 4]), some (.sl 23 1 false (jj.2.map (sR iRow)))]⟩ : St)) (j0 := (0, (repD (f1.Code.length : Int) : List (List Int)))) ((St.le_mvB _ 3 6 rfl rfl rfl rfl).trans ((St.le_mvB _ 4 3 rfl rfl rfl rfl).trans ((St.le_mvB _ 6 4 rfl rfl rfl rfl).trans (St.le_sub ⟨rfl, rfl, rfl, rfl, rfl, trivial⟩ ⟨rfl, rfl, rfl, rfl, rfl, trivial⟩ rfl)))) ?_
  rintro n1 again1 ih_again1 ⟨k1, own1⟩
  refine VS.seq ?_
  refine VS.seq ?_
  refine VS.region ?_
  refine X.lk ?_
  refine X.lk ?_
  refine X.lk ?_
  refine X.lenT ?_
  refine X.lk ?_
  refine X.nil ?_
  refine ES.seq ?_
  refine VS.cond (fun h2 => ?_) (fun h2 => ?_)
  · refine VS.skip ?_
    refine ES.seq ?_
    refine VS.seq ?_
    refine VS.block ?_
    refine VS.seq ?_
    refine VS.region ?_
    refine X.lk ?_
    refine X.lk ?_
    refine X.call true [] [] (r13_Next_ok f1 k1) (fun x1 => ?_)
    refine X.lk ?_
    refine X.nil ?_
    refine ES.seq ?_
    refine VS.seq ?_
    refine VS.region ?_
    refine X.lk ?_
    refine X.nil ?_
    refine ES.seq ?_
    refine VS.block ?_
    refine VS.loop (fun jj : Int × List (List Int) => (⟨[(2, .w (.c (.ptr 0 0 0))), (3, .w (.c (.ptr 1 0 0))), (4, .w (.c (.ptr 2 0 0))), (5, .w (.c (.ptr 3 0 0))), (6, .w (.c (.v (.int .i64 k1)))), (7, .w (.c (.v (.tree (x1.map iRow))))), (8, .w (.c (.v (.int .i64 jj.1))))], [some (.bx 35 ((row_AFunc f1).map .v)), some (.bx 86 ((row_ALive l1).map .v)), some (.bx 86 [.v (.tree (([] : List (List Int)).map (sR iRow)))]), some (.bx 86 [.mref 4]), some (.sl 23 1 false (jj.2.map (sR iRow)))]⟩ : St)) (j0 := (0, own1)) (St.le_sub ⟨rfl, rfl, rfl, rfl, rfl, rfl, rfl, trivial⟩ ⟨rfl, rfl, rfl, rfl, rfl, trivial⟩ rfl) ?_
    rintro n2 again2 ih_again2 ⟨i1, own2⟩
    refine VS.seq ?_
    refine VS.seq ?_
    refine VS.region ?_
    refine X.lk ?_
    refine X.lk ?_
    refine X.lenT ?_
    refine X.lk ?_
    refine X.nil ?_
    refine ES.seq ?_
    refine VS.cond (fun h3 => ?_) (fun h3 => ?_)
    · refine VS.skip ?_
      refine ES.seq ?_
      refine VS.seq ?_
      refine VS.block ?_
      refine VS.seq ?_
      refine VS.region ?_
      refine X.lk ?_
      refine X.lk ?_
      refine X.idxT (fun h4 => ?_)
      refine X.lk ?_
      refine X.lk ?_
      refine X.nil ?_
      refine ES.seq ?_
      refine VS.drawn ?_
      refine X.lk ?_
      refine X.lk ?_
      refine X.lk ?_
      refine X.lk ?_
      refine X.lk ?_
      refine X.lk ?_
      refine X.idxM (l := own2) (i := k1) (fun h5 => ?_)
      refine X.ld (i := k1) h5 ?_
      refine X.lk ?_
      refine X.lk ?_
      refine X.lk ?_
      refine X.idxT (fun h6 => ?_)
      refine X.lk ?_
      refine X.lk ?_
      refine X.lk ?_
      refine X.lk ?_
      refine X.idxT (fun h7 => ?_)
      refine X.lk ?_
      refine X.call true [] [] (r15_In_ok (atD f1.Code (atD x1 i1)) (atD l1.Out (atD x1 i1))) (fun x2 => ?_)
      refine X.call true [] [] (r04_Union_ok (atD own2 k1) x2) (fun x3 => ?_)
      refine X.idxM (l := own2) (i := k1) (fun h8 => ?_)
      refine X.set (i := k1) x3 h8 ?_
      refine X.nilD ?_ (by kernel_rfl)
      refine ES.blkN ?_
      refine ES.seq ?_
      refine VS.region ?_
      refine X.lk ?_
      refine X.ck fun h9 => ?_
      refine X.lk ?_
      refine X.nil ?_
      exact ES.go ih_again2 ((i1 + 1), (setD own2 k1 x3)) (St.le_sub ⟨rfl, rfl, rfl, rfl, rfl, rfl, rfl, trivial⟩ ⟨rfl, rfl, rfl, rfl, rfl, trivial⟩ rfl)
    · refine VS.exit ?_
      refine ES.thnE ?_
      refine ES.thnE ?_
      refine ES.blkE ?_
      refine ES.blkN ?_
      refine ES.seq ?_
      refine VS.region ?_
      refine X.lk ?_
      refine X.ck fun h10 => ?_
      refine X.lk ?_
      refine X.nil ?_
      exact ES.go ih_again1 ((k1 + 1), own2) (St.le_sub ⟨rfl, rfl, rfl, rfl, rfl, trivial⟩ ⟨rfl, rfl, rfl, rfl, rfl, trivial⟩ rfl)
  · refine VS.exit ?_
    refine ES.thnE ?_
    refine ES.thnE ?_
    refine ES.blkE ?_
    refine ES.seq ?_
    refine VS.seq ?_
    refine VS.region ?_
    refine X.lk ?_
    refine X.st ?_
    refine X.nil ?_
    refine ES.seq ?_
    refine VS.ret ?_
    refine ES.ret ?_
    exact Ret.weak (St.le_tcell _ 2 0 4 rfl rfl rfl rfl) (Ret.clo [.agg ((row_ALive (⟨own1⟩ : ALive)).map .v)] ⟨⟨_, _, _, _, _, _, rfl, rfl, fits rfl, rfl⟩, trivial⟩ trivial)
set_option maxHeartbeats 4000000 in
theorem r04_Same_ok (a1 : List Int) (b1 : List Int) : ∀ r : Bool, r04_Same a1 b1 r → FCalls Try.prog 22 [] [.c (.v (.tree (a1.map iRow))), .c (.v (.tree (b1.map iRow)))] (.w (.c (.v (.bool r)))) [] [] := by
  refine fnS 26 ?_
  unfold r04_Same
  refine VS.seq ?_
  refine VS.region ?_
  refine X.lk ?_
  refine X.nil ?_
  refine ES.seq ?_
  refine VS.seq ?_
  refine VS.seq ?_
  refine VS.region ?_
  refine X.lk ?_
  refine X.lenT ?_
  refine X.lk ?_
  refine X.lenT ?_
  refine X.lk ?_
  refine X.nil ?_
  refine ES.seq ?_
  refine VS.cond (fun h1 => ?_) (fun h1 => ?_)
  · refine VS.seq ?_
    refine VS.region ?_
    refine X.lk ?_
    refine X.nil ?_
    refine ES.seq ?_
    refine VS.ret ?_
    refine ES.thnR ?_
    refine ES.ret ?_
    exact Ret.clo [.c (.v (.bool false))] ⟨rfl, trivial⟩ trivial
  · refine VS.skip ?_
    refine ES.seq ?_
    refine VS.seq ?_
    refine VS.seq ?_
    refine VS.region ?_
    refine X.lk ?_
    refine X.nil ?_
    refine ES.seq ?_
    refine VS.block ?_
    refine VS.loop (fun (i1 : Int) => (⟨[(0, .w (.c (.v (.tree (a1.map iRow))))), (1, .w (.c (.v (.tree (b1.map iRow))))), (5, .w (.c (.v (.int .i64 i1))))], []⟩ : St)) (j0 := 0) (St.le_sub ⟨rfl, rfl, rfl, trivial⟩ trivial rfl) ?_
    rintro n1 again1 ih_again1 i1
    refine VS.seq ?_
    refine VS.seq ?_
    refine VS.region ?_
    refine X.lk ?_
    refine X.lk ?_
    refine X.lenT ?_
    refine X.lk ?_
    refine X.nil ?_
    refine ES.seq ?_
    refine VS.cond (fun h2 => ?_) (fun h2 => ?_)
    · refine VS.skip ?_
      refine ES.seq ?_
      refine VS.seq ?_
      refine VS.block ?_
      refine VS.seq ?_
      refine VS.drawn ?_
      refine X.lk ?_
      refine X.lk ?_
      refine X.idxT (fun h3 => ?_)
      refine X.lk ?_
      refine X.lk ?_
      refine X.lk ?_
      refine X.idxT (fun h4 => ?_)
      refine X.lk ?_
      refine X.lk ?_
      refine X.nilD ?_ (by kernel_rfl)
      refine ES.seq ?_
      refine VS.cond (fun h5 => ?_) (fun h5 => ?_)
      · refine VS.seq ?_
        refine VS.region ?_
        refine X.lk ?_
        refine X.nil ?_
        refine ES.seq ?_
        refine VS.ret ?_
        refine ES.blkR ?_
        refine ES.thnR ?_
        refine ES.thnR ?_
        refine ES.blkR ?_
        refine ES.thnR ?_
        refine ES.ret ?_
        exact Ret.clo [.c (.v (.bool false))] ⟨rfl, trivial⟩ trivial
      · refine VS.skip ?_
        refine ES.blkN ?_
        refine ES.seq ?_
        refine VS.region ?_
        refine X.lk ?_
        refine X.ck fun h6 => ?_
        refine X.lk ?_
        refine X.nil ?_
        exact ES.go ih_again1 (i1 + 1) (St.le_sub ⟨rfl, rfl, rfl, trivial⟩ trivial rfl)
    · refine VS.exit ?_
      refine ES.thnE ?_
      refine ES.thnE ?_
      refine ES.blkE ?_
      refine ES.seq ?_
      refine VS.seq ?_
      refine VS.region ?_
      refine X.lk ?_
      refine X.nil ?_
      refine ES.seq ?_
      refine VS.ret ?_
      refine ES.ret ?_
      exact Ret.clo [.c (.v (.bool true))] ⟨rfl, trivial⟩ trivial
set_option maxHeartbeats 4000000 in
theorem r04_SameAll_ok (a1 : List (List Int)) (b1 : List (List Int)) : ∀ r : Bool, r04_SameAll a1 b1 r → FCalls Try.prog 143 [] [.c (.v (.tree (a1.map (sR iRow)))), .c (.v (.tree (b1.map (sR iRow))))] (.w (.c (.v (.bool r)))) [] [] := by
  refine fnS 27 ?_
  unfold r04_SameAll
  refine VS.seq ?_
  refine VS.region ?_
  refine X.lk ?_
  refine X.nil ?_
  refine ES.seq ?_
  refine VS.seq ?_
  refine VS.seq ?_
  refine VS.region ?_
  refine X.lk ?_
  refine X.lenT ?_
  refine X.lk ?_
  refine X.lenT ?_
  refine X.lk ?_
  refine X.nil ?_
  refine ES.seq ?_
  refine VS.cond (fun h1 => ?_) (fun h1 => ?_)
  · refine VS.seq ?_
    refine VS.region ?_
    refine X.lk ?_
    refine X.nil ?_
    refine ES.seq ?_
    refine VS.ret ?_
    refine ES.thnR ?_
    refine ES.ret ?_
    exact Ret.clo [.c (.v (.bool false))] ⟨rfl, trivial⟩ trivial
  · refine VS.skip ?_
    refine ES.seq ?_
    refine VS.seq ?_
    refine VS.seq ?_
    refine VS.region ?_
    refine X.lk ?_
    refine X.nil ?_
    refine ES.seq ?_
    refine VS.block ?_
    refine VS.loop (fun (i1 : Int) => (⟨[(0, .w (.c (.v (.tree (a1.map (sR iRow)))))), (1, .w (.c (.v (.tree (b1.map (sR iRow)))))), (5, .w (.c (.v (.int .i64 i1))))], []⟩ : St)) (j0 := 0) (St.le_sub ⟨rfl, rfl, rfl, trivial⟩ trivial rfl) ?_
    rintro n1 again1 ih_again1 i1
    refine VS.seq ?_
    refine VS.seq ?_
    refine VS.region ?_
    refine X.lk ?_
    refine X.lk ?_
    refine X.lenT ?_
    refine X.lk ?_
    refine X.nil ?_
    refine ES.seq ?_
    refine VS.cond (fun h2 => ?_) (fun h2 => ?_)
    · refine VS.skip ?_
      refine ES.seq ?_
      refine VS.seq ?_
      refine VS.block ?_
      refine VS.seq ?_
      refine VS.drawn ?_
      refine X.lk ?_
      refine X.lk ?_
      refine X.idxT (fun h3 => ?_)
      refine X.lk ?_
      refine X.lk ?_
      refine X.lk ?_
      refine X.idxT (fun h4 => ?_)
      refine X.lk ?_
      refine X.call true [] [] (r04_Same_ok (atD a1 i1) (atD b1 i1)) (fun x1 => ?_)
      refine X.lk ?_
      refine X.nilD ?_ (by kernel_rfl)
      refine ES.seq ?_
      refine VS.cond (fun h5 => ?_) (fun h5 => ?_)
      · refine VS.seq ?_
        refine VS.region ?_
        refine X.lk ?_
        refine X.nil ?_
        refine ES.seq ?_
        refine VS.ret ?_
        refine ES.blkR ?_
        refine ES.thnR ?_
        refine ES.thnR ?_
        refine ES.blkR ?_
        refine ES.thnR ?_
        refine ES.ret ?_
        exact Ret.clo [.c (.v (.bool false))] ⟨rfl, trivial⟩ trivial
      · refine VS.skip ?_
        refine ES.blkN ?_
        refine ES.seq ?_
        refine VS.region ?_
        refine X.lk ?_
        refine X.ck fun h6 => ?_
        refine X.lk ?_
        refine X.nil ?_
        exact ES.go ih_again1 (i1 + 1) (St.le_sub ⟨rfl, rfl, rfl, trivial⟩ trivial rfl)
    · refine VS.exit ?_
      refine ES.thnE ?_
      refine ES.thnE ?_
      refine ES.blkE ?_
      refine ES.seq ?_
      refine VS.seq ?_
      refine VS.region ?_
      refine X.lk ?_
      refine X.nil ?_
      refine ES.seq ?_
      refine VS.ret ?_
      refine ES.ret ?_
      exact Ret.clo [.c (.v (.bool true))] ⟨rfl, trivial⟩ trivial
set_option maxHeartbeats 4000000 in
theorem r16_Same_ok (a1 : ALive) (b1 : ALive) : ∀ r : Bool, r16_Same a1 b1 r → FCalls Try.prog 112 [] [.agg ((row_ALive a1).map .v), .agg ((row_ALive b1).map .v)] (.w (.c (.v (.bool r)))) [] [] := by
  refine fnS 10 ?_
  unfold r16_Same
  refine VS.seq ?_
  refine VS.region ?_
  refine X.box 0 ?_
  refine X.box 1 ?_
  refine X.lk ?_
  refine X.nil ?_
  refine ES.seq ?_
  refine VS.seq ?_
  refine VS.region ?_
  refine X.lk ?_
  refine X.lk ?_
  refine X.lk ?_
  refine X.lk ?_
  refine X.call true [] [] (r04_SameAll_ok a1.Out b1.Out) (fun x1 => ?_)
  refine X.lk ?_
  refine X.nil ?_
  refine ES.seq ?_
  refine VS.ret ?_
  refine ES.ret ?_
  exact Ret.clo [.c (.v (.bool x1))] ⟨rfl, trivial⟩ trivial
set_option maxHeartbeats 4000000 in
theorem r16_Solve_ok (f1 : AFunc) : ∀ r : ALive, r16_Solve f1 r → FCalls Try.prog 89 [] [.agg ((row_AFunc f1).map .v)] (.w (.agg ((row_ALive r).map .v))) [] [] := by
  refine fnS 18 ?_
  unfold r16_Solve
  refine VS.seq ?_
  refine VS.region ?_
  refine X.box 0 ?_
  refine X.alloc 1 ?_
  refine X.nil ?_
  refine ES.seq ?_
  refine VS.seq ?_
  refine VS.region ?_
  refine X.lk ?_
  refine X.lk ?_
  refine X.lenT ?_
  refine X.make 2 (α := List Int) (sR iRow) (fun h1 => ?_)
  refine X.build ?_
  refine X.alloc 3 ?_
  refine X.st ?_
  refine X.nil ?_
  refine ES.seq ?_
  refine VS.block ?_
  refine VS.loop (fun (Out1 : List (List Int)) => (⟨[(1, .w (.c (.ptr 0 0 0))), (2, .w (.c (.ptr 1 0 0))), (3, .w (.c (.ptr 2 0 0)))], [some (.bx 35 ((row_AFunc f1).map .v)), some (.bx 86 [.v (.tree (([] : List (List Int)).map (sR iRow)))]), some (.bx 86 [.v (.tree (Out1.map (sR iRow)))])]⟩ : St)) (j0 := (repD (f1.Code.length : Int) : List (List Int))) ((St.le_tcell _ 3 0 2 rfl rfl rfl rfl).trans ((St.le_drop _ 2 (Nat.le_of_ble_eq_true rfl)).trans ((St.le_mvB _ 3 2 rfl rfl rfl rfl).trans (St.le_sub ⟨rfl, rfl, rfl, trivial⟩ ⟨rfl, rfl, rfl, trivial⟩ rfl)))) ?_
  rintro n1 again1 ih_again1 Out1
  refine VS.block ?_
  refine VS.seq ?_
  refine VS.region ?_
  refine X.lk ?_
  refine X.lk ?_
  refine X.call true [] [] (r16_Step_ok f1 (⟨Out1⟩ : ALive)) (fun x1 => ?_)
  refine X.alloc 3 ?_
  refine X.st ?_
  refine X.nil ?_
  refine ES.seq ?_
  refine VS.seq ?_
  refine VS.seq ?_
  refine VS.region ?_
  refine X.lk ?_
  refine X.lk ?_
  refine X.call true [] [] (r16_Same_ok x1 (⟨Out1⟩ : ALive)) (fun x2 => ?_)
  refine X.nil ?_
  refine ES.seq ?_
  refine VS.cond (fun h2 => ?_) (fun h2 => ?_)
  · refine VS.seq ?_
    refine VS.region ?_
    refine X.lk ?_
    refine X.st ?_
    refine X.nil ?_
    refine ES.seq ?_
    refine VS.ret ?_
    refine ES.thnR ?_
    refine ES.blkR ?_
    refine ES.thnR ?_
    refine ES.blkR ?_
    refine ES.ret ?_
    exact Ret.clo [.agg ((row_ALive (⟨Out1⟩ : ALive)).map .v)] ⟨⟨_, _, _, _, _, _, rfl, rfl, fits rfl, rfl⟩, trivial⟩ trivial
  · refine VS.skip ?_
    refine ES.seq ?_
    refine VS.region ?_
    refine X.lk ?_
    refine X.st ?_
    refine X.nil ?_
    refine ES.blkN ?_
    exact ES.go ih_again1 x1.Out (St.le_sub ⟨rfl, rfl, rfl, trivial⟩ ⟨rfl, rfl, rfl, trivial⟩ rfl)
set_option maxHeartbeats 4000000 in
theorem r04_Check_ok (s1 : List Int) : ∀ r : Bool, r04_Check s1 r → FCalls Try.prog 147 [] [.c (.v (.tree (s1.map iRow)))] (.w (.c (.v (.bool r)))) [] [] := by
  refine fnS 32 ?_
  unfold r04_Check
  refine VS.seq ?_
  refine VS.region ?_
  refine X.lk ?_
  refine X.nil ?_
  refine ES.seq ?_
  refine VS.seq ?_
  refine VS.seq ?_
  refine VS.region ?_
  refine X.lk ?_
  refine X.nil ?_
  refine ES.seq ?_
  refine VS.block ?_
  refine VS.loop (fun (i1 : Int) => (⟨[(0, .w (.c (.v (.tree (s1.map iRow))))), (3, .w (.c (.v (.int .i64 i1))))], []⟩ : St)) (j0 := 0) (St.le_sub ⟨rfl, rfl, trivial⟩ trivial rfl) ?_
  rintro n1 again1 ih_again1 i1
  refine VS.seq ?_
  refine VS.seq ?_
  refine VS.region ?_
  refine X.lk ?_
  refine X.lk ?_
  refine X.lenT ?_
  refine X.lk ?_
  refine X.nil ?_
  refine ES.seq ?_
  refine VS.cond (fun h1 => ?_) (fun h1 => ?_)
  · refine VS.skip ?_
    refine ES.seq ?_
    refine VS.seq ?_
    refine VS.block ?_
    refine VS.seq ?_
    refine VS.drawn ?_
    refine X.lk ?_
    refine X.lk ?_
    refine X.idxT (fun h2 => ?_)
    refine X.lk ?_
    refine X.call true [] [] (r04_good_ok (atD s1 i1)) (fun x1 => ?_)
    refine X.lk ?_
    refine X.lk ?_
    refine X.bif (b := (!x1)) (fun h3 => ?_) (fun h3 => ?_)
    · refine X.gN h3 ?_
      refine X.gN h3 ?_
      refine X.gN h3 ?_
      refine X.gU ?_
      refine X.gU ?_
      refine X.gU ?_
      refine X.gU ?_
      refine X.gU ?_
      refine X.gU ?_
      refine X.gU ?_
      refine X.gU ?_
      refine X.gU ?_
      refine X.gU ?_
      refine X.gN h3 ?_
      refine X.pT h3 ?_
      refine X.nilD ?_ (by kernel_rfl)
      refine ES.seq ?_
      refine VS.condT rfl ?_
      refine VS.seq ?_
      refine VS.region ?_
      refine X.lk ?_
      refine X.nil ?_
      refine ES.seq ?_
      refine VS.ret ?_
      refine ES.blkR ?_
      refine ES.thnR ?_
      refine ES.thnR ?_
      refine ES.blkR ?_
      refine ES.thnR ?_
      refine ES.ret ?_
      exact Ret.clo [.c (.v (.bool false))] ⟨rfl, trivial⟩ trivial
    · refine X.gY h3 ?_
      refine X.lk ?_
      refine X.gY h3 ?_
      refine X.lk ?_
      refine X.gY h3 ?_
      refine X.lk ?_
      refine X.bif (b := (decide (0 < i1))) (fun h4 => ?_) (fun h4 => ?_)
      · refine X.gY h4 ?_
        refine X.lk ?_
        refine X.gY h4 ?_
        refine X.lk ?_
        refine X.gY h4 ?_
        refine X.idxT (fun h5 => ?_)
        refine X.gY h4 ?_
        refine X.lk ?_
        refine X.gY h4 ?_
        refine X.lk ?_
        refine X.gY h4 ?_
        refine X.lk ?_
        refine X.gY h4 ?_
        refine X.ck fun h6 => ?_
        refine X.gY h4 ?_
        refine X.idxT (fun h7 => ?_)
        refine X.gY h4 ?_
        refine X.lk ?_
        refine X.gY h4 ?_
        refine X.lk ?_
        refine X.gY h3 ?_
        refine X.pT h4 ?_
        refine X.pF h3 ?_
        refine X.nilD ?_ (by kernel_rfl)
        refine ES.seq ?_
        refine VS.cond (fun h8 => ?_) (fun h8 => ?_)
        · refine VS.seq ?_
          refine VS.region ?_
          refine X.lk ?_
          refine X.nil ?_
          refine ES.seq ?_
          refine VS.ret ?_
          refine ES.blkR ?_
          refine ES.thnR ?_
          refine ES.thnR ?_
          refine ES.blkR ?_
          refine ES.thnR ?_
          refine ES.ret ?_
          exact Ret.clo [.c (.v (.bool false))] ⟨rfl, trivial⟩ trivial
        · refine VS.skip ?_
          refine ES.blkN ?_
          refine ES.seq ?_
          refine VS.region ?_
          refine X.lk ?_
          refine X.ck fun h9 => ?_
          refine X.lk ?_
          refine X.nil ?_
          exact ES.go ih_again1 (i1 + 1) (St.le_sub ⟨rfl, rfl, trivial⟩ trivial rfl)
      · refine X.gN h4 ?_
        refine X.gN h4 ?_
        refine X.gN h4 ?_
        refine X.gN h4 ?_
        refine X.gN h4 ?_
        refine X.gN h4 ?_
        refine X.gN h4 ?_
        refine X.gN h4 ?_
        refine X.gN h4 ?_
        refine X.gN h4 ?_
        refine X.gY h3 ?_
        refine X.pF h4 ?_
        refine X.pF h3 ?_
        refine X.nilD ?_ (by kernel_rfl)
        refine ES.seq ?_
        refine VS.condF rfl ?_
        refine VS.skip ?_
        refine ES.blkN ?_
        refine ES.seq ?_
        refine VS.region ?_
        refine X.lk ?_
        refine X.ck fun h10 => ?_
        refine X.lk ?_
        refine X.nil ?_
        exact ES.go ih_again1 (i1 + 1) (St.le_sub ⟨rfl, rfl, trivial⟩ trivial rfl)
  · refine VS.exit ?_
    refine ES.thnE ?_
    refine ES.thnE ?_
    refine ES.blkE ?_
    refine ES.seq ?_
    refine VS.seq ?_
    refine VS.region ?_
    refine X.lk ?_
    refine X.nil ?_
    refine ES.seq ?_
    refine VS.ret ?_
    refine ES.ret ?_
    exact Ret.clo [.c (.v (.bool true))] ⟨rfl, trivial⟩ trivial
set_option maxHeartbeats 4000000 in
theorem r17_shape_ok (f1 : AFunc) (l1 : ALive) : ∀ r : Bool, r17_shape f1 l1 r → FCalls Try.prog 138 [] [.agg ((row_AFunc f1).map .v), .agg ((row_ALive l1).map .v)] (.w (.c (.v (.bool r)))) [] [] := by
  refine fnS 51 ?_
  unfold r17_shape
  refine VS.seq ?_
  refine VS.region ?_
  refine X.box 0 ?_
  refine X.box 1 ?_
  refine X.lk ?_
  refine X.nil ?_
  refine ES.seq ?_
  refine VS.seq ?_
  refine VS.seq ?_
  refine VS.region ?_
  refine X.lk ?_
  refine X.lk ?_
  refine X.lenT ?_
  refine X.lk ?_
  refine X.lk ?_
  refine X.lenT ?_
  refine X.lk ?_
  refine X.nil ?_
  refine ES.seq ?_
  refine VS.cond (fun h1 => ?_) (fun h1 => ?_)
  · refine VS.seq ?_
    refine VS.region ?_
    refine X.lk ?_
    refine X.nil ?_
    refine ES.seq ?_
    refine VS.ret ?_
    refine ES.thnR ?_
    refine ES.ret ?_
    exact Ret.clo [.c (.v (.bool false))] ⟨rfl, trivial⟩ trivial
  · refine VS.skip ?_
    refine ES.seq ?_
    refine VS.seq ?_
    refine VS.seq ?_
    refine VS.region ?_
    refine X.lk ?_
    refine X.nil ?_
    refine ES.seq ?_
    refine VS.block ?_
    refine VS.loop (fun (k1 : Int) => (⟨[(2, .w (.c (.ptr 0 0 0))), (3, .w (.c (.ptr 1 0 0))), (5, .w (.c (.v (.int .i64 k1))))], [some (.bx 35 ((row_AFunc f1).map .v)), some (.bx 86 ((row_ALive l1).map .v))]⟩ : St)) (j0 := 0) (St.le_sub ⟨rfl, rfl, rfl, trivial⟩ ⟨rfl, rfl, trivial⟩ rfl) ?_
    rintro n1 again1 ih_again1 k1
    refine VS.seq ?_
    refine VS.seq ?_
    refine VS.region ?_
    refine X.lk ?_
    refine X.lk ?_
    refine X.lk ?_
    refine X.lenT ?_
    refine X.lk ?_
    refine X.nil ?_
    refine ES.seq ?_
    refine VS.cond (fun h2 => ?_) (fun h2 => ?_)
    · refine VS.skip ?_
      refine ES.seq ?_
      refine VS.seq ?_
      refine VS.block ?_
      refine VS.seq ?_
      refine VS.seq ?_
      refine VS.region ?_
      refine X.lk ?_
      refine X.lk ?_
      refine X.lk ?_
      refine X.idxT (fun h3 => ?_)
      refine X.lk ?_
      refine X.call true [] [] (r04_Check_ok (atD l1.Out k1)) (fun x1 => ?_)
      refine X.lk ?_
      refine X.nil ?_
      refine ES.seq ?_
      refine VS.cond (fun h4 => ?_) (fun h4 => ?_)
      · refine VS.seq ?_
        refine VS.region ?_
        refine X.lk ?_
        refine X.nil ?_
        refine ES.seq ?_
        refine VS.ret ?_
        refine ES.thnR ?_
        refine ES.blkR ?_
        refine ES.thnR ?_
        refine ES.thnR ?_
        refine ES.blkR ?_
        refine ES.thnR ?_
        refine ES.ret ?_
        exact Ret.clo [.c (.v (.bool false))] ⟨rfl, trivial⟩ trivial
      · refine VS.skip ?_
        refine ES.seq ?_
        refine VS.seq ?_
        refine VS.region ?_
        refine X.lk ?_
        refine X.lk ?_
        refine X.lk ?_
        refine X.idxT (fun h5 => ?_)
        refine X.lk ?_
        refine X.lenT ?_
        refine X.lk ?_
        refine X.nil ?_
        refine ES.seq ?_
        refine VS.seq ?_
        refine VS.drawn ?_
        refine X.lk ?_
        refine X.lk ?_
        refine X.lk ?_
        refine X.bif (b := (decide (0 < ((atD l1.Out k1).length : Int)))) (fun h6 => ?_) (fun h6 => ?_)
        · refine X.gY h6 ?_
          refine X.lk ?_
          refine X.gY h6 ?_
          refine X.lk ?_
          refine X.gY h6 ?_
          refine X.lk ?_
          refine X.gY h6 ?_
          refine X.idxT (fun h7 => ?_)
          refine X.gY h6 ?_
          refine X.lk ?_
          refine X.gY h6 ?_
          refine X.lk ?_
          refine X.gY h6 ?_
          refine X.ck fun h8 => ?_
          refine X.gY h6 ?_
          refine X.idxT (fun h9 => ?_)
          refine X.gY h6 ?_
          refine X.lk ?_
          refine X.gY h6 ?_
          refine X.lk ?_
          refine X.gY h6 ?_
          refine X.lk ?_
          refine X.gY h6 ?_
          refine X.lenT ?_
          refine X.gY h6 ?_
          refine X.lk ?_
          refine X.pT h6 ?_
          refine X.nilD ?_ (by kernel_rfl)
          refine ES.seq ?_
          refine VS.cond (fun h10 => ?_) (fun h10 => ?_)
          · refine VS.seq ?_
            refine VS.region ?_
            refine X.lk ?_
            refine X.nil ?_
            refine ES.seq ?_
            refine VS.ret ?_
            refine ES.blkR ?_
            refine ES.thnR ?_
            refine ES.thnR ?_
            refine ES.blkR ?_
            refine ES.thnR ?_
            refine ES.ret ?_
            exact Ret.clo [.c (.v (.bool false))] ⟨rfl, trivial⟩ trivial
          · refine VS.skip ?_
            refine ES.blkN ?_
            refine ES.seq ?_
            refine VS.region ?_
            refine X.lk ?_
            refine X.ck fun h11 => ?_
            refine X.lk ?_
            refine X.nil ?_
            exact ES.go ih_again1 (k1 + 1) (St.le_sub ⟨rfl, rfl, rfl, trivial⟩ ⟨rfl, rfl, trivial⟩ rfl)
        · refine X.gN h6 ?_
          refine X.gN h6 ?_
          refine X.gN h6 ?_
          refine X.gN h6 ?_
          refine X.gN h6 ?_
          refine X.gN h6 ?_
          refine X.gN h6 ?_
          refine X.gN h6 ?_
          refine X.gN h6 ?_
          refine X.gN h6 ?_
          refine X.gN h6 ?_
          refine X.gN h6 ?_
          refine X.gN h6 ?_
          refine X.pF h6 ?_
          refine X.nilD ?_ (by kernel_rfl)
          refine ES.seq ?_
          refine VS.condF rfl ?_
          refine VS.skip ?_
          refine ES.blkN ?_
          refine ES.seq ?_
          refine VS.region ?_
          refine X.lk ?_
          refine X.ck fun h12 => ?_
          refine X.lk ?_
          refine X.nil ?_
          exact ES.go ih_again1 (k1 + 1) (St.le_sub ⟨rfl, rfl, rfl, trivial⟩ ⟨rfl, rfl, trivial⟩ rfl)
    · refine VS.exit ?_
      refine ES.thnE ?_
      refine ES.thnE ?_
      refine ES.blkE ?_
      refine ES.seq ?_
      refine VS.seq ?_
      refine VS.region ?_
      refine X.lk ?_
      refine X.nil ?_
      refine ES.seq ?_
      refine VS.ret ?_
      refine ES.ret ?_
      exact Ret.clo [.c (.v (.bool true))] ⟨rfl, trivial⟩ trivial
set_option maxHeartbeats 4000000 in
theorem r04_Has_ok (s1 : List Int) (n1 : Int) : ∀ r : Bool, r04_Has s1 n1 r → FCalls Try.prog 39 [] [.c (.v (.tree (s1.map iRow))), .c (.v (.int .i64 n1))] (.w (.c (.v (.bool r)))) [] [] := by
  refine fnS 18 ?_
  unfold r04_Has
  refine VS.seq ?_
  refine VS.region ?_
  refine X.lk ?_
  refine X.nil ?_
  refine ES.seq ?_
  refine VS.seq ?_
  refine VS.seq ?_
  refine VS.region ?_
  refine X.lk ?_
  refine X.nil ?_
  refine ES.seq ?_
  refine VS.block ?_
  refine VS.loop (fun (i1 : Int) => (⟨[(0, .w (.c (.v (.tree (s1.map iRow))))), (1, .w (.c (.v (.int .i64 n1)))), (5, .w (.c (.v (.int .i64 i1))))], []⟩ : St)) (j0 := 0) (St.le_sub ⟨rfl, rfl, rfl, trivial⟩ trivial rfl) ?_
  rintro n2 again1 ih_again1 i1
  refine VS.seq ?_
  refine VS.seq ?_
  refine VS.region ?_
  refine X.lk ?_
  refine X.lk ?_
  refine X.lenT ?_
  refine X.lk ?_
  refine X.nil ?_
  refine ES.seq ?_
  refine VS.cond (fun h1 => ?_) (fun h1 => ?_)
  · refine VS.skip ?_
    refine ES.seq ?_
    refine VS.seq ?_
    refine VS.block ?_
    refine VS.seq ?_
    refine VS.region ?_
    refine X.lk ?_
    refine X.lk ?_
    refine X.idxT (fun h2 => ?_)
    refine X.lk ?_
    refine X.lk ?_
    refine X.lk ?_
    refine X.nil ?_
    refine ES.seq ?_
    refine VS.cond (fun h3 => ?_) (fun h3 => ?_)
    · refine VS.seq ?_
      refine VS.region ?_
      refine X.lk ?_
      refine X.nil ?_
      refine ES.seq ?_
      refine VS.ret ?_
      refine ES.blkR ?_
      refine ES.thnR ?_
      refine ES.thnR ?_
      refine ES.blkR ?_
      refine ES.thnR ?_
      refine ES.ret ?_
      exact Ret.clo [.c (.v (.bool true))] ⟨rfl, trivial⟩ trivial
    · refine VS.skip ?_
      refine ES.blkN ?_
      refine ES.seq ?_
      refine VS.region ?_
      refine X.lk ?_
      refine X.ck fun h4 => ?_
      refine X.lk ?_
      refine X.nil ?_
      exact ES.go ih_again1 (i1 + 1) (St.le_sub ⟨rfl, rfl, rfl, trivial⟩ trivial rfl)
  · refine VS.exit ?_
    refine ES.thnE ?_
    refine ES.thnE ?_
    refine ES.blkE ?_
    refine ES.seq ?_
    refine VS.seq ?_
    refine VS.region ?_
    refine X.lk ?_
    refine X.nil ?_
    refine ES.seq ?_
    refine VS.ret ?_
    refine ES.ret ?_
    exact Ret.clo [.c (.v (.bool false))] ⟨rfl, trivial⟩ trivial
set_option maxHeartbeats 4000000 in
theorem r04_Minus_ok (a1 : List Int) (b1 : List Int) : ∀ r : List Int, r04_Minus a1 b1 r → FCalls Try.prog 157 [] [.c (.v (.tree (a1.map iRow))), .c (.v (.tree (b1.map iRow)))] (.w (.c (.v (.tree (r.map iRow))))) [] [] := by
  refine fnS 28 ?_
  unfold r04_Minus
  refine VS.seq ?_
  refine VS.region ?_
  refine X.lk ?_
  refine X.nil ?_
  refine ES.seq ?_
  refine VS.seq ?_
  refine VS.region ?_
  refine X.lk ?_
  refine X.nil ?_
  refine ES.seq ?_
  refine VS.seq ?_
  refine VS.seq ?_
  refine VS.region ?_
  refine X.lk ?_
  refine X.nil ?_
  refine ES.seq ?_
  refine VS.block ?_
  refine VS.loop (fun jj : Int × List Int => (⟨[(0, .w (.c (.v (.tree (a1.map iRow))))), (1, .w (.c (.v (.tree (b1.map iRow))))), (5, .w (.c (.mref 0))), (6, .w (.c (.v (.int .i64 jj.1))))], [some (.sl 3 1 false (jj.2.map iRow))]⟩ : St)) (j0 := (0, ([] : List Int))) ((St.le_keep _ [0, 1, 5, 6]).trans ((St.le_adopt _ 5 0 3 1 rfl rfl).trans (St.le_sub ⟨rfl, rfl, rfl, rfl, trivial⟩ ⟨rfl, trivial⟩ rfl))) ?_
  rintro n1 again1 ih_again1 ⟨i1, out1⟩
  refine VS.seq ?_
  refine VS.seq ?_
  refine VS.region ?_
  refine X.lk ?_
  refine X.lk ?_
  refine X.lenT ?_
  refine X.lk ?_
  refine X.nil ?_
  refine ES.seq ?_
  refine VS.cond (fun h1 => ?_) (fun h1 => ?_)
  · refine VS.skip ?_
    refine ES.seq ?_
    refine VS.seq ?_
    refine VS.block ?_
    refine VS.seq ?_
    refine VS.region ?_
    refine X.lk ?_
    refine X.lk ?_
    refine X.lk ?_
    refine X.idxT (fun h2 => ?_)
    refine X.lk ?_
    refine X.call true [] [] (r04_Has_ok b1 (atD a1 i1)) (fun x1 => ?_)
    refine X.lk ?_
    refine X.nil ?_
    refine ES.seq ?_
    refine VS.cond (fun h3 => ?_) (fun h3 => ?_)
    · refine VS.region ?_
      refine X.lk ?_
      refine X.lk ?_
      refine X.lk ?_
      refine X.idxT (fun h4 => ?_)
      refine X.lk ?_
      refine X.bs 1 ([(atD a1 i1)] : List Int) iRow ?_
      refine X.appMM 2 (l := out1) (l' := ([(atD a1 i1)] : List Int)) (fun h5 => ?_)
      refine X.lk ?_
      refine X.nil ?_
      refine ES.blkN ?_
      refine ES.seq ?_
      refine VS.region ?_
      refine X.lk ?_
      refine X.ck fun h6 => ?_
      refine X.lk ?_
      refine X.nil ?_
      exact ES.go ih_again1 ((i1 + 1), (out1 ++ ([(atD a1 i1)] : List Int))) ((St.le_mvB _ 2 0 rfl rfl rfl rfl).trans (St.le_sub ⟨rfl, rfl, rfl, rfl, trivial⟩ ⟨rfl, trivial⟩ rfl))
    · refine VS.skip ?_
      refine ES.blkN ?_
      refine ES.seq ?_
      refine VS.region ?_
      refine X.lk ?_
      refine X.ck fun h7 => ?_
      refine X.lk ?_
      refine X.nil ?_
      exact ES.go ih_again1 ((i1 + 1), out1) (St.le_sub ⟨rfl, rfl, rfl, rfl, trivial⟩ ⟨rfl, trivial⟩ rfl)
  · refine VS.exit ?_
    refine ES.thnE ?_
    refine ES.thnE ?_
    refine ES.blkE ?_
    refine ES.seq ?_
    refine VS.seq ?_
    refine VS.region ?_
    refine X.lk ?_
    refine X.lk ?_
    refine X.nil ?_
    refine ES.seq ?_
    refine VS.ret ?_
    refine ES.ret ?_
    exact Ret.weak (St.le_tree _ 4 0 rfl rfl) (Ret.clo [.c (.v (.tree (out1.map iRow)))] ⟨rfl, trivial⟩ trivial)
end Go.Proofs.Ytbppgdffochdmaa.Q
