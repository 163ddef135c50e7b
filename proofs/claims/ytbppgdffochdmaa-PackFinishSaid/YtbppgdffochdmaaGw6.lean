/- Walks of functions: the code does what the lifted text says (written by a program). -/
import Derived.Test.YtbppgdffochdmaaGw5
set_option linter.unusedVariables false
set_option linter.unusedSimpArgs false
set_option maxRecDepth 8000
namespace Go.Proofs.Ytbppgdffochdmaa.Q
open Go.RowKit
set_option maxHeartbeats 4000000 in
theorem r18_Check_ok (g1 : List (List Int)) (n1 : Int) : ∀ r : Bool, r18_Check g1 n1 r → FCalls Try.prog 121 [] [.c (.v (.tree (g1.map (sR iRow)))), .c (.v (.int .i64 n1))] (.w (.c (.v (.bool r)))) [] [] := by
  refine fnS 59 ?_
  unfold r18_Check
  refine VS.seq ?_
  refine VS.region ?_
  refine X.lk ?_
  refine X.nil ?_
  refine ES.seq ?_
  refine VS.seq ?_
  refine VS.seq ?_
  refine VS.region ?_
  refine X.lk ?_
  refine X.lenT ?_
  refine X.lk ?_
  refine X.lk ?_
  refine X.nil ?_
  refine ES.seq ?_
  refine VS.cond (fun h1 => ?_) (fun h1 => ?_)
  · refine VS.seq ?_
    refine VS.region ?_
    refine X.lk ?_
    refine X.nil ?_
    refine ES.seq ?_
    refine VS.ret ?_
    refine ES.thnR ?_
    refine ES.ret ?_
    exact Ret.clo [.c (.v (.bool false))] ⟨rfl, trivial⟩ trivial
  · refine VS.skip ?_
    refine ES.seq ?_
    refine VS.seq ?_
    refine VS.seq ?_
    refine VS.region ?_
    refine X.lk ?_
    refine X.nil ?_
    refine ES.seq ?_
    refine VS.block ?_
    refine VS.loop (fun (x1 : Int) => (⟨[(0, .w (.c (.v (.tree (g1.map (sR iRow)))))), (1, .w (.c (.v (.int .i64 n1)))), (5, .w (.c (.v (.int .i64 x1))))], []⟩ : St)) (j0 := 0) (St.le_sub ⟨rfl, rfl, rfl, trivial⟩ trivial rfl) ?_
    rintro n2 again1 ih_again1 x1
    refine VS.seq ?_
    refine VS.seq ?_
    refine VS.region ?_
    refine X.lk ?_
    refine X.lk ?_
    refine X.lk ?_
    refine X.nil ?_
    refine ES.seq ?_
    refine VS.cond (fun h2 => ?_) (fun h2 => ?_)
    · refine VS.skip ?_
      refine ES.seq ?_
      refine VS.seq ?_
      refine VS.block ?_
      refine VS.seq ?_
      refine VS.seq ?_
      refine VS.region ?_
      refine X.lk ?_
      refine X.lk ?_
      refine X.idxT (fun h3 => ?_)
      refine X.lk ?_
      refine X.call true [] [] (r04_Check_ok (atD g1 x1)) (fun x2 => ?_)
      refine X.lk ?_
      refine X.lk ?_
      refine X.bif (b := (!x2)) (fun h4 => ?_) (fun h4 => ?_)
      · refine X.gN h4 ?_
        refine X.gN h4 ?_
        refine X.gN h4 ?_
        refine X.gN h4 ?_
        refine X.gN h4 ?_
        refine X.gN h4 ?_
        refine X.pT h4 ?_
        refine X.nil ?_
        refine ES.seq ?_
        refine VS.condT rfl ?_
        refine VS.seq ?_
        refine VS.region ?_
        refine X.lk ?_
        refine X.nil ?_
        refine ES.seq ?_
        refine VS.ret ?_
        refine ES.thnR ?_
        refine ES.blkR ?_
        refine ES.thnR ?_
        refine ES.thnR ?_
        refine ES.blkR ?_
        refine ES.thnR ?_
        refine ES.ret ?_
        exact Ret.clo [.c (.v (.bool false))] ⟨rfl, trivial⟩ trivial
      · refine X.gY h4 ?_
        refine X.lk ?_
        refine X.gY h4 ?_
        refine X.lk ?_
        refine X.gY h4 ?_
        refine X.idxT (fun h5 => ?_)
        refine X.gY h4 ?_
        refine X.lk ?_
        refine X.gY h4 ?_
        refine X.lk ?_
        refine X.gY h4 ?_
        refine X.call true [] [] (r04_Has_ok (atD g1 x1) x1) (fun x3 => ?_)
        refine X.pF h4 ?_
        refine X.nil ?_
        refine ES.seq ?_
        refine VS.cond (fun h6 => ?_) (fun h6 => ?_)
        · refine VS.seq ?_
          refine VS.region ?_
          refine X.lk ?_
          refine X.nil ?_
          refine ES.seq ?_
          refine VS.ret ?_
          refine ES.thnR ?_
          refine ES.blkR ?_
          refine ES.thnR ?_
          refine ES.thnR ?_
          refine ES.blkR ?_
          refine ES.thnR ?_
          refine ES.ret ?_
          exact Ret.clo [.c (.v (.bool false))] ⟨rfl, trivial⟩ trivial
        · refine VS.skip ?_
          refine ES.seq ?_
          refine VS.seq ?_
          refine VS.region ?_
          refine X.lk ?_
          refine X.nil ?_
          refine ES.seq ?_
          refine VS.block ?_
          refine VS.loop (fun (i1 : Int) => (⟨[(0, .w (.c (.v (.tree (g1.map (sR iRow)))))), (1, .w (.c (.v (.int .i64 n1)))), (5, .w (.c (.v (.int .i64 x1)))), (6, .w (.c (.v (.int .i64 i1)))), (24, .w (.c (.v (.tree (g1.map (sR iRow)))))), (25, .w (.c (.v (.int .i64 x1)))), (26, .w (.c (.tptr (sR iRow (atD g1 x1)) 0))), (27, .w (.c (.v (.tree ((atD g1 x1).map iRow))))), (28, .w (.c (.v (.int .i64 x1)))), (29, .w (.c (.v (.bool x3))))], []⟩ : St)) (j0 := 0) (St.le_sub ⟨rfl, rfl, rfl, rfl, rfl, rfl, rfl, rfl, rfl, rfl, trivial⟩ trivial rfl) ?_
          rintro n3 again2 ih_again2 i1
          refine VS.seq ?_
          refine VS.seq ?_
          refine VS.region ?_
          refine X.lk ?_
          refine X.lk ?_
          refine X.lk ?_
          refine X.idxT (fun h7 => ?_)
          refine X.lk ?_
          refine X.lenT ?_
          refine X.lk ?_
          refine X.nil ?_
          refine ES.seq ?_
          refine VS.cond (fun h8 => ?_) (fun h8 => ?_)
          · refine VS.skip ?_
            refine ES.seq ?_
            refine VS.seq ?_
            refine VS.block ?_
            refine VS.seq ?_
            refine VS.region ?_
            refine X.lk ?_
            refine X.lk ?_
            refine X.idxT (fun h9 => ?_)
            refine X.lk ?_
            refine X.lk ?_
            refine X.idxT (fun h10 => ?_)
            refine X.lk ?_
            refine X.lk ?_
            refine X.nil ?_
            refine ES.seq ?_
            refine VS.seq ?_
            refine VS.region ?_
            refine X.lk ?_
            refine X.lk ?_
            refine X.lk ?_
            refine X.lk ?_
            refine X.bif (b := (decide (n1 ≤ (atD (atD g1 x1) i1)))) (fun h11 => ?_) (fun h11 => ?_)
            · refine X.gN h11 ?_
              refine X.gN h11 ?_
              refine X.gN h11 ?_
              refine X.gN h11 ?_
              refine X.gN h11 ?_
              refine X.gN h11 ?_
              refine X.gN h11 ?_
              refine X.pT h11 ?_
              refine X.nil ?_
              refine ES.seq ?_
              refine VS.condT rfl ?_
              refine VS.seq ?_
              refine VS.region ?_
              refine X.lk ?_
              refine X.nil ?_
              refine ES.seq ?_
              refine VS.ret ?_
              refine ES.blkR ?_
              refine ES.thnR ?_
              refine ES.thnR ?_
              refine ES.blkR ?_
              refine ES.blkR ?_
              refine ES.thnR ?_
              refine ES.thnR ?_
              refine ES.blkR ?_
              refine ES.thnR ?_
              refine ES.ret ?_
              exact Ret.clo [.c (.v (.bool false))] ⟨rfl, trivial⟩ trivial
            · refine X.gY h11 ?_
              refine X.lk ?_
              refine X.gY h11 ?_
              refine X.lk ?_
              refine X.gY h11 ?_
              refine X.idxT (fun h12 => ?_)
              refine X.gY h11 ?_
              refine X.lk ?_
              refine X.gY h11 ?_
              refine X.lk ?_
              refine X.gY h11 ?_
              refine X.call true [] [] (r04_Has_ok (atD g1 (atD (atD g1 x1) i1)) x1) (fun x4 => ?_)
              refine X.gY h11 ?_
              refine X.lk ?_
              refine X.pF h11 ?_
              refine X.nil ?_
              refine ES.seq ?_
              refine VS.cond (fun h13 => ?_) (fun h13 => ?_)
              · refine VS.seq ?_
                refine VS.region ?_
                refine X.lk ?_
                refine X.nil ?_
                refine ES.seq ?_
                refine VS.ret ?_
                refine ES.blkR ?_
                refine ES.thnR ?_
                refine ES.thnR ?_
                refine ES.blkR ?_
                refine ES.blkR ?_
                refine ES.thnR ?_
                refine ES.thnR ?_
                refine ES.blkR ?_
                refine ES.thnR ?_
                refine ES.ret ?_
                exact Ret.clo [.c (.v (.bool false))] ⟨rfl, trivial⟩ trivial
              · refine VS.skip ?_
                refine ES.blkN ?_
                refine ES.seq ?_
                refine VS.region ?_
                refine X.lk ?_
                refine X.ck fun h14 => ?_
                refine X.lk ?_
                refine X.nil ?_
                exact ES.go ih_again2 (i1 + 1) (St.le_sub ⟨rfl, rfl, rfl, rfl, rfl, rfl, rfl, rfl, rfl, rfl, trivial⟩ trivial rfl)
          · refine VS.exit ?_
            refine ES.thnE ?_
            refine ES.thnE ?_
            refine ES.blkE ?_
            refine ES.blkN ?_
            refine ES.seq ?_
            refine VS.region ?_
            refine X.lk ?_
            refine X.ck fun h15 => ?_
            refine X.lk ?_
            refine X.nil ?_
            exact ES.go ih_again1 (x1 + 1) (St.le_sub ⟨rfl, rfl, rfl, trivial⟩ trivial rfl)
    · refine VS.exit ?_
      refine ES.thnE ?_
      refine ES.thnE ?_
      refine ES.blkE ?_
      refine ES.seq ?_
      refine VS.seq ?_
      refine VS.region ?_
      refine X.lk ?_
      refine X.nil ?_
      refine ES.seq ?_
      refine VS.ret ?_
      refine ES.ret ?_
      exact Ret.clo [.c (.v (.bool true))] ⟨rfl, trivial⟩ trivial
set_option maxHeartbeats 4000000 in
theorem r23_before_ok (a1 : ASlot) (b1 : ASlot) : ∀ r : Bool, r23_before a1 b1 r → FCalls Try.prog 148 [] [.agg ((row_ASlot a1).map .v), .agg ((row_ASlot b1).map .v)] (.w (.c (.v (.bool r)))) [] [] := by
  refine fnS 24 ?_
  unfold r23_before
  refine VS.seq ?_
  refine VS.region ?_
  refine X.box 0 ?_
  refine X.box 1 ?_
  refine X.lk ?_
  refine X.nil ?_
  refine ES.seq ?_
  refine VS.seq ?_
  refine VS.region ?_
  refine X.lk ?_
  refine X.lk ?_
  refine X.lk ?_
  refine X.lk ?_
  refine X.lk ?_
  refine X.lk ?_
  refine X.bif (b := (decide (b1.Align < a1.Align))) (fun h1 => ?_) (fun h1 => ?_)
  · refine X.gN h1 ?_
    refine X.gN h1 ?_
    refine X.gN h1 ?_
    refine X.gN h1 ?_
    refine X.gN h1 ?_
    refine X.gN h1 ?_
    refine X.gU ?_
    refine X.gU ?_
    refine X.gU ?_
    refine X.gU ?_
    refine X.gU ?_
    refine X.gN h1 ?_
    refine X.pT h1 ?_
    refine X.lk ?_
    refine X.nil ?_
    refine ES.seq ?_
    refine VS.ret ?_
    refine ES.ret ?_
    exact Ret.clo [.c (.v (.bool true))] ⟨rfl, trivial⟩ trivial
  · refine X.gY h1 ?_
    refine X.lk ?_
    refine X.gY h1 ?_
    refine X.lk ?_
    refine X.gY h1 ?_
    refine X.lk ?_
    refine X.gY h1 ?_
    refine X.lk ?_
    refine X.gY h1 ?_
    refine X.lk ?_
    refine X.gY h1 ?_
    refine X.lk ?_
    refine X.bif (b := (decide (a1.Align = b1.Align))) (fun h2 => ?_) (fun h2 => ?_)
    · refine X.gY h2 ?_
      refine X.lk ?_
      refine X.gY h2 ?_
      refine X.lk ?_
      refine X.gY h2 ?_
      refine X.lk ?_
      refine X.gY h2 ?_
      refine X.lk ?_
      refine X.gY h2 ?_
      refine X.lk ?_
      refine X.gY h1 ?_
      refine X.pT h2 ?_
      refine X.pF h1 ?_
      refine X.lk ?_
      refine X.nil ?_
      refine ES.seq ?_
      refine VS.ret ?_
      refine ES.ret ?_
      exact Ret.clo [.c (.v (.bool (decide (b1.Size < a1.Size))))] ⟨rfl, trivial⟩ trivial
    · refine X.gN h2 ?_
      refine X.gN h2 ?_
      refine X.gN h2 ?_
      refine X.gN h2 ?_
      refine X.gN h2 ?_
      refine X.gY h1 ?_
      refine X.pF h2 ?_
      refine X.pF h1 ?_
      refine X.lk ?_
      refine X.nil ?_
      refine ES.seq ?_
      refine VS.ret ?_
      refine ES.ret ?_
      exact Ret.clo [.c (.v (.bool false))] ⟨rfl, trivial⟩ trivial
set_option maxHeartbeats 4000000 in
theorem r23_Order_ok (s1 : List ASlot) : ∀ r : List Int, r23_Order s1 r → FCalls Try.prog 122 [] [.c (.v (.tree (s1.map row_ASlot)))] (.w (.c (.v (.tree (r.map iRow))))) [] [] := by
  refine fnS 47 ?_
  unfold r23_Order
  refine VS.seq ?_
  refine VS.region ?_
  refine X.lk ?_
  refine X.nil ?_
  refine ES.seq ?_
  refine VS.seq ?_
  refine VS.region ?_
  refine X.lk ?_
  refine X.nil ?_
  refine ES.seq ?_
  refine VS.seq ?_
  refine VS.seq ?_
  refine VS.region ?_
  refine X.lk ?_
  refine X.nil ?_
  refine ES.seq ?_
  refine VS.block ?_
  refine VS.loop (fun jj : Int × List Int => (⟨[(0, .w (.c (.v (.tree (s1.map row_ASlot))))), (3, .w (.c (.mref 0))), (4, .w (.c (.v (.int .i64 jj.1))))], [some (.sl 3 1 false (jj.2.map iRow))]⟩ : St)) (j0 := (0, ([] : List Int))) ((St.le_keep _ [0, 3, 4]).trans ((St.le_adopt _ 3 0 3 1 rfl rfl).trans (St.le_sub ⟨rfl, rfl, rfl, trivial⟩ ⟨rfl, trivial⟩ rfl))) ?_
  rintro n1 again1 ih_again1 ⟨i1, out1⟩
  refine VS.seq ?_
  refine VS.seq ?_
  refine VS.region ?_
  refine X.lk ?_
  refine X.lk ?_
  refine X.lenT ?_
  refine X.lk ?_
  refine X.nil ?_
  refine ES.seq ?_
  refine VS.cond (fun h1 => ?_) (fun h1 => ?_)
  · refine VS.skip ?_
    refine ES.seq ?_
    refine VS.seq ?_
    refine VS.block ?_
    refine VS.seq ?_
    refine VS.region ?_
    refine X.lk ?_
    refine X.lenM (l := out1) ?_
    refine X.lk ?_
    refine X.nil ?_
    refine ES.seq ?_
    refine VS.join (fun (k1 : Int) => (⟨[(0, .w (.c (.v (.tree (s1.map row_ASlot))))), (3, .w (.c (.mref 0))), (4, .w (.c (.v (.int .i64 i1)))), (5, .w (.c (.v (.int .i64 k1))))], [some (.sl 3 1 false (out1.map iRow))]⟩ : St)) ?_ ?_
    · rintro k1
      refine VS.seq ?_
      refine VS.weak (St.le_tree _ 3 0 rfl rfl) ?_
      refine VS.region ?_
      refine X.lk ?_
      refine X.lk ?_
      refine X.sliceT none (some k1) (fun h2 => ?_) trivial ⟨_, rfl⟩
      refine X.appNT 1 (l' := (sliceD out1 0 k1)) (fun h3 => ?_)
      refine X.lk ?_
      refine X.nil ?_
      refine ES.seq ?_
      refine VS.drawn ?_
      refine X.lk ?_
      refine X.lk ?_
      refine X.bs 2 ([i1] : List Int) iRow ?_
      refine X.appMM 3 (l := (sliceD out1 0 k1)) (l' := ([i1] : List Int)) (fun h4 => ?_)
      refine X.lk ?_
      refine X.lk ?_
      refine X.sliceT (some k1) none (fun h5 => ?_) ⟨_, rfl⟩ trivial
      refine X.appMT 4 (l := ((sliceD out1 0 k1) ++ ([i1] : List Int))) (l' := (sliceD out1 k1 (out1.length : Int))) (fun h6 => ?_)
      refine X.lk ?_
      refine X.nilD ?_ (by kernel_rfl)
      refine ES.blkN ?_
      refine ES.seq ?_
      refine VS.region ?_
      refine X.lk ?_
      refine X.ck fun h7 => ?_
      refine X.lk ?_
      refine X.nil ?_
      exact ES.go ih_again1 ((i1 + 1), (((sliceD out1 0 k1) ++ ([i1] : List Int)) ++ (sliceD out1 k1 (out1.length : Int)))) ((St.le_drop _ 0 (Nat.le_of_ble_eq_true rfl)).trans ((St.le_mvB _ 4 0 rfl rfl rfl rfl).trans (St.le_sub ⟨rfl, rfl, rfl, trivial⟩ ⟨rfl, trivial⟩ rfl)))
    · intro k2 ih_k2
      refine VS.block ?_
      refine VS.loop (fun (k3 : Int) => (⟨[(0, .w (.c (.v (.tree (s1.map row_ASlot))))), (3, .w (.c (.mref 0))), (4, .w (.c (.v (.int .i64 i1)))), (5, .w (.c (.v (.int .i64 k3))))], [some (.sl 3 1 false (out1.map iRow))]⟩ : St)) (j0 := (out1.length : Int)) (St.le_sub ⟨rfl, rfl, rfl, rfl, trivial⟩ ⟨rfl, trivial⟩ rfl) ?_
      rintro n2 again2 ih_again2 k3
      refine VS.seq ?_
      refine VS.seq ?_
      refine VS.drawn ?_
      refine X.lk ?_
      refine X.lk ?_
      refine X.lk ?_
      refine X.bif (b := (decide (0 < k3))) (fun h8 => ?_) (fun h8 => ?_)
      · refine X.gY h8 ?_
        refine X.lk ?_
        refine X.gY h8 ?_
        refine X.lk ?_
        refine X.gY h8 ?_
        refine X.idxT (fun h9 => ?_)
        refine X.gY h8 ?_
        refine X.lk ?_
        refine X.gY h8 ?_
        refine X.lk ?_
        refine X.gY h8 ?_
        refine X.lk ?_
        refine X.gY h8 ?_
        refine X.lk ?_
        refine X.gY h8 ?_
        refine X.ck fun h10 => ?_
        refine X.gY h8 ?_
        refine X.idxM (l := out1) (i := (k3 - 1)) (fun h11 => ?_)
        refine X.gY h8 ?_
        refine X.ld (i := (k3 - 1)) h11 ?_
        refine X.gY h8 ?_
        refine X.idxT (fun h12 => ?_)
        refine X.gY h8 ?_
        refine X.lk ?_
        refine X.gY h8 ?_
        refine X.call true [] [] (r23_before_ok (atD s1 i1) (atD s1 (atD out1 (k3 - 1)))) (fun x1 => ?_)
        refine X.pT h8 ?_
        refine X.nilD ?_ (by kernel_rfl)
        refine ES.seq ?_
        refine VS.cond (fun h13 => ?_) (fun h13 => ?_)
        · refine VS.skip ?_
          refine ES.seq ?_
          refine VS.block ?_
          refine VS.region ?_
          refine X.lk ?_
          refine X.ck fun h14 => ?_
          refine X.lk ?_
          refine X.nil ?_
          refine ES.blkN ?_
          exact ES.go ih_again2 (k3 - 1) (St.le_sub ⟨rfl, rfl, rfl, rfl, trivial⟩ ⟨rfl, trivial⟩ rfl)
        · refine VS.exit ?_
          refine ES.thnE ?_
          refine ES.thnE ?_
          refine ES.blkE ?_
          exact ES.jn ih_k2 k3 (St.le_sub ⟨rfl, rfl, rfl, rfl, trivial⟩ ⟨rfl, trivial⟩ rfl)
      · refine X.gN h8 ?_
        refine X.gN h8 ?_
        refine X.gN h8 ?_
        refine X.gN h8 ?_
        refine X.gN h8 ?_
        refine X.gN h8 ?_
        refine X.gN h8 ?_
        refine X.gN h8 ?_
        refine X.gN h8 ?_
        refine X.gN h8 ?_
        refine X.gN h8 ?_
        refine X.gN h8 ?_
        refine X.gN h8 ?_
        refine X.pF h8 ?_
        refine X.nilD ?_ (by kernel_rfl)
        refine ES.seq ?_
        refine VS.condF rfl ?_
        refine VS.exit ?_
        refine ES.thnE ?_
        refine ES.thnE ?_
        refine ES.blkE ?_
        exact ES.jn ih_k2 k3 (St.le_sub ⟨rfl, rfl, rfl, rfl, trivial⟩ ⟨rfl, trivial⟩ rfl)
  · refine VS.exit ?_
    refine ES.thnE ?_
    refine ES.thnE ?_
    refine ES.blkE ?_
    refine ES.seq ?_
    refine VS.seq ?_
    refine VS.region ?_
    refine X.lk ?_
    refine X.lk ?_
    refine X.nil ?_
    refine ES.seq ?_
    refine VS.ret ?_
    refine ES.ret ?_
    exact Ret.weak (St.le_tree _ 2 0 rfl rfl) (Ret.clo [.c (.v (.tree (out1.map iRow)))] ⟨rfl, trivial⟩ trivial)
set_option maxHeartbeats 4000000 in
theorem r03_Right_ok (a1 : AInterval) : ∀ r : Bool, r03_Right a1 r → FCalls Try.prog 64 [] [.agg ((row_AInterval a1).map .v)] (.w (.c (.v (.bool r)))) [] [] := by
  refine fnS 19 ?_
  unfold r03_Right
  refine VS.seq ?_
  refine VS.region ?_
  refine X.box 0 ?_
  refine X.lk ?_
  refine X.nil ?_
  refine ES.seq ?_
  refine VS.seq ?_
  refine VS.region ?_
  refine X.lk ?_
  refine X.lk ?_
  refine X.call true [] [] (r03_Bound_ok a1.Off) (fun x1 => ?_)
  refine X.lk ?_
  refine X.bif (b := x1) (fun h1 => ?_) (fun h1 => ?_)
  · refine X.gY h1 ?_
    refine X.lk ?_
    refine X.gY h1 ?_
    refine X.lk ?_
    refine X.gY h1 ?_
    refine X.call true [] [] (r03_Bound_ok a1.Size) (fun x2 => ?_)
    refine X.pT h1 ?_
    refine X.lk ?_
    refine X.bif (b := x2) (fun h2 => ?_) (fun h2 => ?_)
    · refine X.gY h2 ?_
      refine X.lk ?_
      refine X.gY h2 ?_
      refine X.lk ?_
      refine X.gY h2 ?_
      refine X.lk ?_
      refine X.gY h2 ?_
      refine X.lk ?_
      refine X.gY h2 ?_
      refine X.ck fun h3 => ?_
      refine X.gY h2 ?_
      refine X.lk ?_
      refine X.pT h2 ?_
      refine X.lk ?_
      refine X.nil ?_
      refine ES.seq ?_
      refine VS.ret ?_
      refine ES.ret ?_
      exact Ret.clo [.c (.v (.bool (decide ((a1.Off + a1.Size) ≤ 2147483647))))] ⟨rfl, trivial⟩ trivial
    · refine X.gN h2 ?_
      refine X.gN h2 ?_
      refine X.gN h2 ?_
      refine X.gN h2 ?_
      refine X.gN h2 ?_
      refine X.gN h2 ?_
      refine X.pF h2 ?_
      refine X.lk ?_
      refine X.nil ?_
      refine ES.seq ?_
      refine VS.ret ?_
      refine ES.ret ?_
      exact Ret.clo [.c (.v (.bool false))] ⟨rfl, trivial⟩ trivial
  · refine X.gN h1 ?_
    refine X.gN h1 ?_
    refine X.gN h1 ?_
    refine X.pF h1 ?_
    refine X.lk ?_
    refine X.gN rfl ?_
    refine X.gN rfl ?_
    refine X.gN rfl ?_
    refine X.gN rfl ?_
    refine X.gN rfl ?_
    refine X.gN rfl ?_
    refine X.pF rfl ?_
    refine X.lk ?_
    refine X.nil ?_
    refine ES.seq ?_
    refine VS.ret ?_
    refine ES.ret ?_
    exact Ret.clo [.c (.v (.bool false))] ⟨rfl, trivial⟩ trivial
set_option maxHeartbeats 4000000 in
theorem r03_Overlap_ok (a1 : AInterval) (b1 : AInterval) : ∀ r : Bool, r03_Overlap a1 b1 r → FCalls Try.prog 35 [] [.agg ((row_AInterval a1).map .v), .agg ((row_AInterval b1).map .v)] (.w (.c (.v (.bool r)))) [] [] := by
  refine fnS 41 ?_
  unfold r03_Overlap
  refine VS.seq ?_
  refine VS.region ?_
  refine X.box 0 ?_
  refine X.box 1 ?_
  refine X.lk ?_
  refine X.nil ?_
  refine ES.seq ?_
  refine VS.seq ?_
  refine VS.region ?_
  refine X.lk ?_
  refine X.call true [] [] (r03_Right_ok a1) (fun x1 => ?_)
  refine X.lk ?_
  refine X.bif (b := x1) (fun h1 => ?_) (fun h1 => ?_)
  · refine X.gY h1 ?_
    refine X.lk ?_
    refine X.gY h1 ?_
    refine X.call true [] [] (r03_Right_ok b1) (fun x2 => ?_)
    refine X.pT h1 ?_
    refine X.lk ?_
    refine X.bif (b := x2) (fun h2 => ?_) (fun h2 => ?_)
    · refine X.gY h2 ?_
      refine X.lk ?_
      refine X.gY h2 ?_
      refine X.lk ?_
      refine X.gY h2 ?_
      refine X.lk ?_
      refine X.pT h2 ?_
      refine X.lk ?_
      refine X.bif (b := (decide (0 < a1.Size))) (fun h3 => ?_) (fun h3 => ?_)
      · refine X.gY h3 ?_
        refine X.lk ?_
        refine X.gY h3 ?_
        refine X.lk ?_
        refine X.gY h3 ?_
        refine X.lk ?_
        refine X.pT h3 ?_
        refine X.lk ?_
        refine X.bif (b := (decide (0 < b1.Size))) (fun h4 => ?_) (fun h4 => ?_)
        · refine X.gY h4 ?_
          refine X.lk ?_
          refine X.gY h4 ?_
          refine X.lk ?_
          refine X.gY h4 ?_
          refine X.lk ?_
          refine X.gY h4 ?_
          refine X.lk ?_
          refine X.gY h4 ?_
          refine X.lk ?_
          refine X.gY h4 ?_
          refine X.lk ?_
          refine X.gY h4 ?_
          refine X.ck fun h5 => ?_
          refine X.gY h4 ?_
          refine X.lk ?_
          refine X.pT h4 ?_
          refine X.lk ?_
          refine X.bif (b := (decide (a1.Off < (b1.Off + b1.Size)))) (fun h6 => ?_) (fun h6 => ?_)
          · refine X.gY h6 ?_
            refine X.lk ?_
            refine X.gY h6 ?_
            refine X.lk ?_
            refine X.gY h6 ?_
            refine X.lk ?_
            refine X.gY h6 ?_
            refine X.lk ?_
            refine X.gY h6 ?_
            refine X.lk ?_
            refine X.gY h6 ?_
            refine X.lk ?_
            refine X.gY h6 ?_
            refine X.ck fun h7 => ?_
            refine X.gY h6 ?_
            refine X.lk ?_
            refine X.pT h6 ?_
            refine X.lk ?_
            refine X.nil ?_
            refine ES.seq ?_
            refine VS.ret ?_
            refine ES.ret ?_
            exact Ret.clo [.c (.v (.bool (decide (b1.Off < (a1.Off + a1.Size)))))] ⟨rfl, trivial⟩ trivial
          · refine X.gN h6 ?_
            refine X.gN h6 ?_
            refine X.gN h6 ?_
            refine X.gN h6 ?_
            refine X.gN h6 ?_
            refine X.gN h6 ?_
            refine X.gN h6 ?_
            refine X.gN h6 ?_
            refine X.pF h6 ?_
            refine X.lk ?_
            refine X.nil ?_
            refine ES.seq ?_
            refine VS.ret ?_
            refine ES.ret ?_
            exact Ret.clo [.c (.v (.bool false))] ⟨rfl, trivial⟩ trivial
        · refine X.gN h4 ?_
          refine X.gN h4 ?_
          refine X.gN h4 ?_
          refine X.gN h4 ?_
          refine X.gN h4 ?_
          refine X.gN h4 ?_
          refine X.gN h4 ?_
          refine X.gN h4 ?_
          refine X.pF h4 ?_
          refine X.lk ?_
          refine X.gN rfl ?_
          refine X.gN rfl ?_
          refine X.gN rfl ?_
          refine X.gN rfl ?_
          refine X.gN rfl ?_
          refine X.gN rfl ?_
          refine X.gN rfl ?_
          refine X.gN rfl ?_
          refine X.pF rfl ?_
          refine X.lk ?_
          refine X.nil ?_
          refine ES.seq ?_
          refine VS.ret ?_
          refine ES.ret ?_
          exact Ret.clo [.c (.v (.bool false))] ⟨rfl, trivial⟩ trivial
      · refine X.gN h3 ?_
        refine X.gN h3 ?_
        refine X.gN h3 ?_
        refine X.pF h3 ?_
        refine X.lk ?_
        refine X.gN rfl ?_
        refine X.gN rfl ?_
        refine X.gN rfl ?_
        refine X.gN rfl ?_
        refine X.gN rfl ?_
        refine X.gN rfl ?_
        refine X.gN rfl ?_
        refine X.gN rfl ?_
        refine X.pF rfl ?_
        refine X.lk ?_
        refine X.gN rfl ?_
        refine X.gN rfl ?_
        refine X.gN rfl ?_
        refine X.gN rfl ?_
        refine X.gN rfl ?_
        refine X.gN rfl ?_
        refine X.gN rfl ?_
        refine X.gN rfl ?_
        refine X.pF rfl ?_
        refine X.lk ?_
        refine X.nil ?_
        refine ES.seq ?_
        refine VS.ret ?_
        refine ES.ret ?_
        exact Ret.clo [.c (.v (.bool false))] ⟨rfl, trivial⟩ trivial
    · refine X.gN h2 ?_
      refine X.gN h2 ?_
      refine X.gN h2 ?_
      refine X.pF h2 ?_
      refine X.lk ?_
      refine X.gN rfl ?_
      refine X.gN rfl ?_
      refine X.gN rfl ?_
      refine X.pF rfl ?_
      refine X.lk ?_
      refine X.gN rfl ?_
      refine X.gN rfl ?_
      refine X.gN rfl ?_
      refine X.gN rfl ?_
      refine X.gN rfl ?_
      refine X.gN rfl ?_
      refine X.gN rfl ?_
      refine X.gN rfl ?_
      refine X.pF rfl ?_
      refine X.lk ?_
      refine X.gN rfl ?_
      refine X.gN rfl ?_
      refine X.gN rfl ?_
      refine X.gN rfl ?_
      refine X.gN rfl ?_
      refine X.gN rfl ?_
      refine X.gN rfl ?_
      refine X.gN rfl ?_
      refine X.pF rfl ?_
      refine X.lk ?_
      refine X.nil ?_
      refine ES.seq ?_
      refine VS.ret ?_
      refine ES.ret ?_
      exact Ret.clo [.c (.v (.bool false))] ⟨rfl, trivial⟩ trivial
  · refine X.gN h1 ?_
    refine X.gN h1 ?_
    refine X.pF h1 ?_
    refine X.lk ?_
    refine X.gN rfl ?_
    refine X.gN rfl ?_
    refine X.gN rfl ?_
    refine X.pF rfl ?_
    refine X.lk ?_
    refine X.gN rfl ?_
    refine X.gN rfl ?_
    refine X.gN rfl ?_
    refine X.pF rfl ?_
    refine X.lk ?_
    refine X.gN rfl ?_
    refine X.gN rfl ?_
    refine X.gN rfl ?_
    refine X.gN rfl ?_
    refine X.gN rfl ?_
    refine X.gN rfl ?_
    refine X.gN rfl ?_
    refine X.gN rfl ?_
    refine X.pF rfl ?_
    refine X.lk ?_
    refine X.gN rfl ?_
    refine X.gN rfl ?_
    refine X.gN rfl ?_
    refine X.gN rfl ?_
    refine X.gN rfl ?_
    refine X.gN rfl ?_
    refine X.gN rfl ?_
    refine X.gN rfl ?_
    refine X.pF rfl ?_
    refine X.lk ?_
    refine X.nil ?_
    refine ES.seq ?_
    refine VS.ret ?_
    refine ES.ret ?_
    exact Ret.clo [.c (.v (.bool false))] ⟨rfl, trivial⟩ trivial
set_option maxHeartbeats 4000000 in
theorem r03_free_ok (used1 : List AInterval) (x1 : AInterval) : ∀ r : Bool, r03_free used1 x1 r → FCalls Try.prog 85 [] [.c (.v (.tree (used1.map row_AInterval))), .agg ((row_AInterval x1).map .v)] (.w (.c (.v (.bool r)))) [] [] := by
  refine fnS 18 ?_
  unfold r03_free
  refine VS.seq ?_
  refine VS.region ?_
  refine X.box 0 ?_
  refine X.lk ?_
  refine X.nil ?_
  refine ES.seq ?_
  refine VS.seq ?_
  refine VS.seq ?_
  refine VS.region ?_
  refine X.lk ?_
  refine X.nil ?_
  refine ES.seq ?_
  refine VS.block ?_
  refine VS.loop (fun (i1 : Int) => (⟨[(0, .w (.c (.v (.tree (used1.map row_AInterval))))), (3, .w (.c (.ptr 0 0 0))), (5, .w (.c (.v (.int .i64 i1))))], [some (.bx 60 ((row_AInterval x1).map .v))]⟩ : St)) (j0 := 0) (St.le_sub ⟨rfl, rfl, rfl, trivial⟩ ⟨rfl, trivial⟩ rfl) ?_
  rintro n1 again1 ih_again1 i1
  refine VS.seq ?_
  refine VS.seq ?_
  refine VS.region ?_
  refine X.lk ?_
  refine X.lk ?_
  refine X.lenT ?_
  refine X.lk ?_
  refine X.nil ?_
  refine ES.seq ?_
  refine VS.cond (fun h1 => ?_) (fun h1 => ?_)
  · refine VS.skip ?_
    refine ES.seq ?_
    refine VS.seq ?_
    refine VS.block ?_
    refine VS.seq ?_
    refine VS.drawn ?_
    refine X.lk ?_
    refine X.lk ?_
    refine X.idxT (fun h2 => ?_)
    refine X.lk ?_
    refine X.lk ?_
    refine X.call true [] [] (r03_Overlap_ok (atD used1 i1) x1) (fun x2 => ?_)
    refine X.nilD ?_ (by kernel_rfl)
    refine ES.seq ?_
    refine VS.cond (fun h3 => ?_) (fun h3 => ?_)
    · refine VS.seq ?_
      refine VS.region ?_
      refine X.lk ?_
      refine X.nil ?_
      refine ES.seq ?_
      refine VS.ret ?_
      refine ES.blkR ?_
      refine ES.thnR ?_
      refine ES.thnR ?_
      refine ES.blkR ?_
      refine ES.thnR ?_
      refine ES.ret ?_
      exact Ret.clo [.c (.v (.bool false))] ⟨rfl, trivial⟩ trivial
    · refine VS.skip ?_
      refine ES.blkN ?_
      refine ES.seq ?_
      refine VS.region ?_
      refine X.lk ?_
      refine X.ck fun h4 => ?_
      refine X.lk ?_
      refine X.nil ?_
      exact ES.go ih_again1 (i1 + 1) (St.le_sub ⟨rfl, rfl, rfl, trivial⟩ ⟨rfl, trivial⟩ rfl)
  · refine VS.exit ?_
    refine ES.thnE ?_
    refine ES.thnE ?_
    refine ES.blkE ?_
    refine ES.seq ?_
    refine VS.seq ?_
    refine VS.region ?_
    refine X.lk ?_
    refine X.nil ?_
    refine ES.seq ?_
    refine VS.ret ?_
    refine ES.ret ?_
    exact Ret.clo [.c (.v (.bool true))] ⟨rfl, trivial⟩ trivial
set_option maxHeartbeats 4000000 in
theorem r03_Fit_ok (used1 : List AInterval) (from1 : Int) (size1 : Int) (align1 : Int) : ∀ r : Int × Int, r03_Fit used1 from1 size1 align1 r → FCalls Try.prog 47 [] [.c (.v (.tree (used1.map row_AInterval))), .c (.v (.int .i64 from1)), .c (.v (.int .i64 size1)), .c (.v (.int .i64 align1))] (.tup [.c (.v (.int .i64 r.1)), .c (.v (.int .i64 r.2))]) [] [] := by
  refine fnS 98 ?_
  unfold r03_Fit
  refine VS.seq ?_
  refine VS.region ?_
  refine X.lk ?_
  refine X.lk ?_
  refine X.nil ?_
  refine ES.seq ?_
  refine VS.seq ?_
  refine VS.seq ?_
  refine VS.region ?_
  refine X.lk ?_
  refine X.call true [] [] (r03_Bound_ok from1) (fun x1 => ?_)
  refine X.lk ?_
  refine X.lk ?_
  refine X.bif (b := (!x1)) (fun h1 => ?_) (fun h1 => ?_)
  · refine X.gN h1 ?_
    refine X.gN h1 ?_
    refine X.gN h1 ?_
    refine X.pT h1 ?_
    refine X.lk ?_
    refine X.gN rfl ?_
    refine X.gN rfl ?_
    refine X.gN rfl ?_
    refine X.pT rfl ?_
    refine X.nil ?_
    refine ES.seq ?_
    refine VS.condT rfl ?_
    refine VS.seq ?_
    refine VS.region ?_
    refine X.lk ?_
    refine X.lk ?_
    refine X.nil ?_
    refine ES.seq ?_
    refine VS.ret ?_
    refine ES.thnR ?_
    refine ES.ret ?_
    exact Ret.clo [.c (.v (.int .i64 0)), .c (.v (.int .i64 4))] ⟨rfl, rfl, trivial⟩ trivial
  · refine X.gY h1 ?_
    refine X.lk ?_
    refine X.gY h1 ?_
    refine X.call true [] [] (r03_Bound_ok size1) (fun x2 => ?_)
    refine X.gY h1 ?_
    refine X.lk ?_
    refine X.pF h1 ?_
    refine X.lk ?_
    refine X.bif (b := (!x2)) (fun h2 => ?_) (fun h2 => ?_)
    · refine X.gN h2 ?_
      refine X.gN h2 ?_
      refine X.gN h2 ?_
      refine X.pT h2 ?_
      refine X.nil ?_
      refine ES.seq ?_
      refine VS.condT rfl ?_
      refine VS.seq ?_
      refine VS.region ?_
      refine X.lk ?_
      refine X.lk ?_
      refine X.nil ?_
      refine ES.seq ?_
      refine VS.ret ?_
      refine ES.thnR ?_
      refine ES.ret ?_
      exact Ret.clo [.c (.v (.int .i64 0)), .c (.v (.int .i64 4))] ⟨rfl, rfl, trivial⟩ trivial
    · refine X.gY h2 ?_
      refine X.lk ?_
      refine X.gY h2 ?_
      refine X.call true [] [] (r03_Power_ok align1) (fun x3 => ?_)
      refine X.gY h2 ?_
      refine X.lk ?_
      refine X.pF h2 ?_
      refine X.nil ?_
      refine ES.seq ?_
      refine VS.cond (fun h3 => ?_) (fun h3 => ?_)
      · refine VS.seq ?_
        refine VS.region ?_
        refine X.lk ?_
        refine X.lk ?_
        refine X.nil ?_
        refine ES.seq ?_
        refine VS.ret ?_
        refine ES.thnR ?_
        refine ES.ret ?_
        exact Ret.clo [.c (.v (.int .i64 0)), .c (.v (.int .i64 4))] ⟨rfl, rfl, trivial⟩ trivial
      · refine VS.skip ?_
        refine ES.seq ?_
        refine VS.seq ?_
        refine VS.seq ?_
        refine VS.region ?_
        refine X.lk ?_
        refine X.nil ?_
        refine ES.seq ?_
        refine VS.block ?_
        refine VS.loop (fun (i1 : Int) => (⟨[(0, .w (.c (.v (.tree (used1.map row_AInterval))))), (1, .w (.c (.v (.int .i64 from1)))), (2, .w (.c (.v (.int .i64 size1)))), (3, .w (.c (.v (.int .i64 align1)))), (10, .w (.c (.v (.int .i64 i1))))], []⟩ : St)) (j0 := 0) (St.le_sub ⟨rfl, rfl, rfl, rfl, rfl, trivial⟩ trivial rfl) ?_
        rintro n1 again1 ih_again1 i1
        refine VS.seq ?_
        refine VS.seq ?_
        refine VS.region ?_
        refine X.lk ?_
        refine X.lk ?_
        refine X.lenT ?_
        refine X.lk ?_
        refine X.nil ?_
        refine ES.seq ?_
        refine VS.cond (fun h4 => ?_) (fun h4 => ?_)
        · refine VS.skip ?_
          refine ES.seq ?_
          refine VS.seq ?_
          refine VS.block ?_
          refine VS.seq ?_
          refine VS.region ?_
          refine X.lk ?_
          refine X.lk ?_
          refine X.idxT (fun h5 => ?_)
          refine X.lk ?_
          refine X.call true [] [] (r03_Right_ok (atD used1 i1)) (fun x4 => ?_)
          refine X.lk ?_
          refine X.nil ?_
          refine ES.seq ?_
          refine VS.cond (fun h6 => ?_) (fun h6 => ?_)
          · refine VS.seq ?_
            refine VS.region ?_
            refine X.lk ?_
            refine X.lk ?_
            refine X.nil ?_
            refine ES.seq ?_
            refine VS.ret ?_
            refine ES.blkR ?_
            refine ES.thnR ?_
            refine ES.thnR ?_
            refine ES.blkR ?_
            refine ES.thnR ?_
            refine ES.ret ?_
            exact Ret.clo [.c (.v (.int .i64 0)), .c (.v (.int .i64 4))] ⟨rfl, rfl, trivial⟩ trivial
          · refine VS.skip ?_
            refine ES.blkN ?_
            refine ES.seq ?_
            refine VS.region ?_
            refine X.lk ?_
            refine X.ck fun h7 => ?_
            refine X.lk ?_
            refine X.nil ?_
            exact ES.go ih_again1 (i1 + 1) (St.le_sub ⟨rfl, rfl, rfl, rfl, rfl, trivial⟩ trivial rfl)
        · refine VS.exit ?_
          refine ES.thnE ?_
          refine ES.thnE ?_
          refine ES.blkE ?_
          refine ES.seq ?_
          refine VS.seq ?_
          refine VS.region ?_
          refine X.lk ?_
          refine X.lk ?_
          refine X.nil ?_
          refine ES.seq ?_
          refine VS.seq ?_
          refine VS.seq ?_
          refine VS.region ?_
          refine X.lk ?_
          refine X.nil ?_
          refine ES.seq ?_
          refine VS.block ?_
          refine VS.loop (fun jj : Int × Bool × Int => (⟨[(0, .w (.c (.v (.tree (used1.map row_AInterval))))), (1, .w (.c (.v (.int .i64 from1)))), (2, .w (.c (.v (.int .i64 size1)))), (3, .w (.c (.v (.int .i64 align1)))), (11, .w (.c (.v (.int .i64 jj.1)))), (12, .w (.c (.v (.bool jj.2.1)))), (13, .w (.c (.v (.int .i64 jj.2.2))))], []⟩ : St)) (j0 := (0, false, (-1))) (St.le_sub ⟨rfl, rfl, rfl, rfl, rfl, rfl, rfl, trivial⟩ trivial rfl) ?_
          rintro n2 again2 ih_again2 ⟨best1, found1, i2⟩
          refine VS.seq ?_
          refine VS.seq ?_
          refine VS.region ?_
          refine X.lk ?_
          refine X.lk ?_
          refine X.lenT ?_
          refine X.lk ?_
          refine X.nil ?_
          refine ES.seq ?_
          refine VS.cond (fun h8 => ?_) (fun h8 => ?_)
          · refine VS.skip ?_
            refine ES.seq ?_
            refine VS.seq ?_
            refine VS.block ?_
            refine VS.seq ?_
            refine VS.region ?_
            refine X.lk ?_
            refine X.lk ?_
            refine X.nil ?_
            refine ES.seq ?_
            refine VS.join (fun (at1 : Int) => (⟨[(0, .w (.c (.v (.tree (used1.map row_AInterval))))), (1, .w (.c (.v (.int .i64 from1)))), (2, .w (.c (.v (.int .i64 size1)))), (3, .w (.c (.v (.int .i64 align1)))), (11, .w (.c (.v (.int .i64 best1)))), (12, .w (.c (.v (.bool found1)))), (13, .w (.c (.v (.int .i64 i2)))), (14, .w (.c (.v (.int .i64 at1))))], []⟩ : St)) ?_ ?_
            · rintro at1
              refine VS.seq ?_
              refine VS.region ?_
              refine X.lk ?_
              refine X.lk ?_
              refine X.call true [] [] (r03_Up_ok at1 align1) (fun x5 => ?_)
              refine X.lk ?_
              refine X.lk ?_
              refine X.lk ?_
              refine X.lk ?_
              refine X.lk ?_
              refine X.nil ?_
              refine ES.seq ?_
              refine VS.seq ?_
              refine VS.region ?_
              refine X.lk ?_
              refine X.lk ?_
              refine X.build ?_
              refine X.alloc 0 ?_
              refine X.st ?_
              refine X.nil ?_
              refine ES.seq ?_
              refine VS.seq ?_
              refine VS.region ?_
              refine X.lk ?_
              refine X.lk ?_
              refine X.lk ?_
              refine X.bif (b := (decide (x5.2 = 0))) (fun h9 => ?_) (fun h9 => ?_)
              · refine X.gY h9 ?_
                refine X.lk ?_
                refine X.gY h9 ?_
                refine X.call true [] [] (r03_Right_ok (⟨x5.1, size1⟩ : AInterval)) (fun x6 => ?_)
                refine X.pT h9 ?_
                refine X.lk ?_
                refine X.bif (b := x6) (fun h10 => ?_) (fun h10 => ?_)
                · refine X.gY h10 ?_
                  refine X.lk ?_
                  refine X.gY h10 ?_
                  refine X.lk ?_
                  refine X.gY h10 ?_
                  refine X.call true [] [] (r03_free_ok used1 (⟨x5.1, size1⟩ : AInterval)) (fun x7 => ?_)
                  refine X.pT h10 ?_
                  refine X.lk ?_
                  refine X.bif (b := x7) (fun h11 => ?_) (fun h11 => ?_)
                  · refine X.gY h11 ?_
                    refine X.lk ?_
                    refine X.gY h11 ?_
                    refine X.lk ?_
                    refine X.gY h11 ?_
                    refine X.lk ?_
                    refine X.bif (b := (!found1)) (fun h12 => ?_) (fun h12 => ?_)
                    · refine X.gN h12 ?_
                      refine X.gN h12 ?_
                      refine X.gN h12 ?_
                      refine X.gY h11 ?_
                      refine X.pT h12 ?_
                      refine X.pT h11 ?_
                      refine X.nil ?_
                      refine ES.seq ?_
                      refine VS.condT rfl ?_
                      refine VS.region ?_
                      refine X.lk ?_
                      refine X.lk ?_
                      refine X.lk ?_
                      refine X.nil ?_
                      refine ES.blkN ?_
                      refine ES.seq ?_
                      refine VS.region ?_
                      refine X.lk ?_
                      refine X.ck fun h13 => ?_
                      refine X.lk ?_
                      refine X.nil ?_
                      exact ES.go ih_again2 (x5.1, true, (i2 + 1)) (St.le_sub ⟨rfl, rfl, rfl, rfl, rfl, rfl, rfl, trivial⟩ trivial rfl)
                    · refine X.gY h12 ?_
                      refine X.lk ?_
                      refine X.gY h12 ?_
                      refine X.lk ?_
                      refine X.gY h12 ?_
                      refine X.lk ?_
                      refine X.gY h11 ?_
                      refine X.pF h12 ?_
                      refine X.pT h11 ?_
                      refine X.nil ?_
                      refine ES.seq ?_
                      refine VS.cond (fun h14 => ?_) (fun h14 => ?_)
                      · refine VS.region ?_
                        refine X.lk ?_
                        refine X.lk ?_
                        refine X.lk ?_
                        refine X.nil ?_
                        refine ES.blkN ?_
                        refine ES.seq ?_
                        refine VS.region ?_
                        refine X.lk ?_
                        refine X.ck fun h15 => ?_
                        refine X.lk ?_
                        refine X.nil ?_
                        exact ES.go ih_again2 (x5.1, true, (i2 + 1)) (St.le_sub ⟨rfl, rfl, rfl, rfl, rfl, rfl, rfl, trivial⟩ trivial rfl)
                      · refine VS.skip ?_
                        refine ES.blkN ?_
                        refine ES.seq ?_
                        refine VS.region ?_
                        refine X.lk ?_
                        refine X.ck fun h16 => ?_
                        refine X.lk ?_
                        refine X.nil ?_
                        exact ES.go ih_again2 (best1, found1, (i2 + 1)) (St.le_sub ⟨rfl, rfl, rfl, rfl, rfl, rfl, rfl, trivial⟩ trivial rfl)
                  · refine X.gN h11 ?_
                    refine X.gN h11 ?_
                    refine X.gN h11 ?_
                    refine X.gU ?_
                    refine X.gU ?_
                    refine X.gU ?_
                    refine X.gN h11 ?_
                    refine X.pF h11 ?_
                    refine X.nil ?_
                    refine ES.seq ?_
                    refine VS.condF rfl ?_
                    refine VS.skip ?_
                    refine ES.blkN ?_
                    refine ES.seq ?_
                    refine VS.region ?_
                    refine X.lk ?_
                    refine X.ck fun h17 => ?_
                    refine X.lk ?_
                    refine X.nil ?_
                    exact ES.go ih_again2 (best1, found1, (i2 + 1)) (St.le_sub ⟨rfl, rfl, rfl, rfl, rfl, rfl, rfl, trivial⟩ trivial rfl)
                · refine X.gN h10 ?_
                  refine X.gN h10 ?_
                  refine X.gN h10 ?_
                  refine X.pF h10 ?_
                  refine X.lk ?_
                  refine X.gN rfl ?_
                  refine X.gN rfl ?_
                  refine X.gN rfl ?_
                  refine X.gU ?_
                  refine X.gU ?_
                  refine X.gU ?_
                  refine X.gN rfl ?_
                  refine X.pF rfl ?_
                  refine X.nil ?_
                  refine ES.seq ?_
                  refine VS.condF rfl ?_
                  refine VS.skip ?_
                  refine ES.blkN ?_
                  refine ES.seq ?_
                  refine VS.region ?_
                  refine X.lk ?_
                  refine X.ck fun h18 => ?_
                  refine X.lk ?_
                  refine X.nil ?_
                  exact ES.go ih_again2 (best1, found1, (i2 + 1)) (St.le_sub ⟨rfl, rfl, rfl, rfl, rfl, rfl, rfl, trivial⟩ trivial rfl)
              · refine X.gN h9 ?_
                refine X.gN h9 ?_
                refine X.pF h9 ?_
                refine X.lk ?_
                refine X.gN rfl ?_
                refine X.gN rfl ?_
                refine X.gN rfl ?_
                refine X.pF rfl ?_
                refine X.lk ?_
                refine X.gN rfl ?_
                refine X.gN rfl ?_
                refine X.gN rfl ?_
                refine X.gU ?_
                refine X.gU ?_
                refine X.gU ?_
                refine X.gN rfl ?_
                refine X.pF rfl ?_
                refine X.nil ?_
                refine ES.seq ?_
                refine VS.condF rfl ?_
                refine VS.skip ?_
                refine ES.blkN ?_
                refine ES.seq ?_
                refine VS.region ?_
                refine X.lk ?_
                refine X.ck fun h19 => ?_
                refine X.lk ?_
                refine X.nil ?_
                exact ES.go ih_again2 (best1, found1, (i2 + 1)) (St.le_sub ⟨rfl, rfl, rfl, rfl, rfl, rfl, rfl, trivial⟩ trivial rfl)
            · intro k1 ih_k1
              refine VS.seq ?_
              refine VS.region ?_
              refine X.lk ?_
              refine X.lk ?_
              refine X.nil ?_
              refine ES.seq ?_
              refine VS.cond (fun h20 => ?_) (fun h20 => ?_)
              · refine VS.drawn ?_
                refine X.lk ?_
                refine X.lk ?_
                refine X.lk ?_
                refine X.idxT (fun h21 => ?_)
                refine X.lk ?_
                refine X.lk ?_
                refine X.lk ?_
                refine X.lk ?_
                refine X.idxT (fun h22 => ?_)
                refine X.lk ?_
                refine X.lk ?_
                refine X.ck fun h23 => ?_
                refine X.max ?_
                refine X.lk ?_
                refine X.nilD ?_ (by kernel_rfl)
                exact ES.jn ih_k1 (max from1 (((atD used1 i2).Off) + ((atD used1 i2).Size))) (St.le_sub ⟨rfl, rfl, rfl, rfl, rfl, rfl, rfl, rfl, trivial⟩ trivial rfl)
              · refine VS.skip ?_
                exact ES.jn ih_k1 from1 (St.le_sub ⟨rfl, rfl, rfl, rfl, rfl, rfl, rfl, rfl, trivial⟩ trivial rfl)
          · refine VS.exit ?_
            refine ES.thnE ?_
            refine ES.thnE ?_
            refine ES.blkE ?_
            refine ES.seq ?_
            refine VS.seq ?_
            refine VS.seq ?_
            refine VS.region ?_
            refine X.lk ?_
            refine X.lk ?_
            refine X.nil ?_
            refine ES.seq ?_
            refine VS.cond (fun h24 => ?_) (fun h24 => ?_)
            · refine VS.seq ?_
              refine VS.region ?_
              refine X.lk ?_
              refine X.lk ?_
              refine X.nil ?_
              refine ES.seq ?_
              refine VS.ret ?_
              refine ES.thnR ?_
              refine ES.ret ?_
              exact Ret.clo [.c (.v (.int .i64 0)), .c (.v (.int .i64 9))] ⟨rfl, rfl, trivial⟩ trivial
            · refine VS.skip ?_
              refine ES.seq ?_
              refine VS.seq ?_
              refine VS.region ?_
              refine X.lk ?_
              refine X.lk ?_
              refine X.lk ?_
              refine X.nil ?_
              refine ES.seq ?_
              refine VS.ret ?_
              refine ES.ret ?_
              exact Ret.clo [.c (.v (.int .i64 best1)), .c (.v (.int .i64 0))] ⟨rfl, rfl, trivial⟩ trivial
set_option maxHeartbeats 4000000 in
theorem r23_Assign_ok (s1 : List ASlot) (g1 : List (List Int)) (from1 : Int) : ∀ r : List Int × Int, r23_Assign s1 g1 from1 r → FCalls Try.prog 94 [] [.c (.v (.tree (s1.map row_ASlot))), .c (.v (.tree (g1.map (sR iRow)))), .c (.v (.int .i64 from1))] (.tup [.c (.v (.tree (r.1.map iRow))), .c (.v (.int .i64 r.2))]) [] [] := by
  refine fnS 109 ?_
  unfold r23_Assign
  refine VS.seq ?_
  refine VS.region ?_
  refine X.lk ?_
  refine X.lk ?_
  refine X.nil ?_
  refine ES.seq ?_
  refine VS.seq ?_
  refine VS.seq ?_
  refine VS.region ?_
  refine X.lk ?_
  refine X.call true [] [] (r03_Slots_ok s1) (fun x1 => ?_)
  refine X.lk ?_
  refine X.nil ?_
  refine ES.seq ?_
  refine VS.seq ?_
  refine VS.region ?_
  refine X.lk ?_
  refine X.lk ?_
  refine X.nil ?_
  refine ES.seq ?_
  refine VS.cond (fun h1 => ?_) (fun h1 => ?_)
  · refine VS.seq ?_
    refine VS.region ?_
    refine X.lk ?_
    refine X.lk ?_
    refine X.lk ?_
    refine X.nil ?_
    refine ES.seq ?_
    refine VS.ret ?_
    refine ES.thnR ?_
    refine ES.ret ?_
    exact Ret.weak (St.le_nil _ 6 rfl) (Ret.clo [.c (.v (.tree (([] : List Int).map iRow))), .c (.v (.int .i64 x1))] ⟨rfl, rfl, trivial⟩ trivial)
  · refine VS.skip ?_
    refine ES.seq ?_
    refine VS.seq ?_
    refine VS.seq ?_
    refine VS.region ?_
    refine X.lk ?_
    refine X.lk ?_
    refine X.lenT ?_
    refine X.call true [] [] (r18_Check_ok g1 (s1.length : Int)) (fun x2 => ?_)
    refine X.lk ?_
    refine X.lk ?_
    refine X.bif (b := (!x2)) (fun h2 => ?_) (fun h2 => ?_)
    · refine X.gN h2 ?_
      refine X.gN h2 ?_
      refine X.gN h2 ?_
      refine X.pT h2 ?_
      refine X.nil ?_
      refine ES.seq ?_
      refine VS.condT rfl ?_
      refine VS.seq ?_
      refine VS.region ?_
      refine X.lk ?_
      refine X.lk ?_
      refine X.nil ?_
      refine ES.seq ?_
      refine VS.ret ?_
      refine ES.thnR ?_
      refine ES.ret ?_
      exact Ret.weak (St.le_nil _ 6 rfl) (Ret.clo [.c (.v (.tree (([] : List Int).map iRow))), .c (.v (.int .i64 4))] ⟨rfl, rfl, trivial⟩ trivial)
    · refine X.gY h2 ?_
      refine X.lk ?_
      refine X.gY h2 ?_
      refine X.call true [] [] (r03_Bound_ok from1) (fun x3 => ?_)
      refine X.gY h2 ?_
      refine X.lk ?_
      refine X.pF h2 ?_
      refine X.nil ?_
      refine ES.seq ?_
      refine VS.cond (fun h3 => ?_) (fun h3 => ?_)
      · refine VS.seq ?_
        refine VS.region ?_
        refine X.lk ?_
        refine X.lk ?_
        refine X.nil ?_
        refine ES.seq ?_
        refine VS.ret ?_
        refine ES.thnR ?_
        refine ES.ret ?_
        exact Ret.weak (St.le_nil _ 6 rfl) (Ret.clo [.c (.v (.tree (([] : List Int).map iRow))), .c (.v (.int .i64 4))] ⟨rfl, rfl, trivial⟩ trivial)
      · refine VS.skip ?_
        refine ES.seq ?_
        refine VS.seq ?_
        refine VS.drawn ?_
        refine X.lk ?_
        refine X.lenT ?_
        refine X.make 0 (α := Int) iRow (fun h4 => ?_)
        refine X.lk ?_
        refine X.lenT ?_
        refine X.make 1 (α := Bool) oRow (fun h5 => ?_)
        refine X.lk ?_
        refine X.lk ?_
        refine X.nilD ?_ (by kernel_rfl)
        refine ES.seq ?_
        refine VS.seq ?_
        refine VS.region ?_
        refine X.lk ?_
        refine X.call true [] [] (r23_Order_ok s1) (fun x4 => ?_)
        refine X.lk ?_
        refine X.nil ?_
        refine ES.seq ?_
        refine VS.seq ?_
        refine VS.seq ?_
        refine VS.region ?_
        refine X.lk ?_
        refine X.nil ?_
        refine ES.seq ?_
        refine VS.block ?_
        refine VS.loop (fun jj : Int × List Int × List Bool => (⟨[(0, .w (.c (.v (.tree (s1.map row_ASlot))))), (1, .w (.c (.v (.tree (g1.map (sR iRow)))))), (2, .w (.c (.v (.int .i64 from1)))), (9, .w (.c (.mref 0))), (10, .w (.c (.mref 1))), (11, .w (.c (.v (.tree (x4.map iRow))))), (12, .w (.c (.v (.int .i64 jj.1))))], [some (.sl 3 1 false (jj.2.1.map iRow)), some (.sl 4 1 false (jj.2.2.map oRow))]⟩ : St)) (j0 := (0, (repD (s1.length : Int) : List Int), (repD (s1.length : Int) : List Bool))) (St.le_sub ⟨rfl, rfl, rfl, rfl, rfl, rfl, rfl, trivial⟩ ⟨rfl, rfl, trivial⟩ rfl) ?_
        rintro n1 again1 ih_again1 ⟨i1, off1, done1⟩
        refine VS.seq ?_
        refine VS.seq ?_
        refine VS.region ?_
        refine X.lk ?_
        refine X.lk ?_
        refine X.lenT ?_
        refine X.lk ?_
        refine X.nil ?_
        refine ES.seq ?_
        refine VS.cond (fun h6 => ?_) (fun h6 => ?_)
        · refine VS.skip ?_
          refine ES.seq ?_
          refine VS.seq ?_
          refine VS.block ?_
          refine VS.seq ?_
          refine VS.region ?_
          refine X.lk ?_
          refine X.lk ?_
          refine X.idxT (fun h7 => ?_)
          refine X.lk ?_
          refine X.lk ?_
          refine X.nil ?_
          refine ES.seq ?_
          refine VS.seq ?_
          refine VS.region ?_
          refine X.lk ?_
          refine X.nil ?_
          refine ES.seq ?_
          refine VS.seq ?_
          refine VS.seq ?_
          refine VS.region ?_
          refine X.lk ?_
          refine X.nil ?_
          refine ES.seq ?_
          refine VS.block ?_
          refine VS.loop (fun jj : Int × List AInterval => (⟨[(0, .w (.c (.v (.tree (s1.map row_ASlot))))), (1, .w (.c (.v (.tree (g1.map (sR iRow)))))), (2, .w (.c (.v (.int .i64 from1)))), (9, .w (.c (.mref 0))), (10, .w (.c (.mref 1))), (11, .w (.c (.v (.tree (x4.map iRow))))), (12, .w (.c (.v (.int .i64 i1)))), (13, .w (.c (.v (.int .i64 (atD x4 i1))))), (14, .w (.c (.mref 2))), (15, .w (.c (.v (.int .i64 jj.1))))], [some (.sl 3 1 false (off1.map iRow)), some (.sl 4 1 false (done1.map oRow)), some (.sl 60 2 false (jj.2.map row_AInterval))]⟩ : St)) (j0 := (0, ([] : List AInterval))) ((St.le_keep _ [0, 1, 2, 9, 10, 11, 12, 13, 14, 15]).trans ((St.le_adopt _ 14 2 60 2 rfl rfl).trans (St.le_sub ⟨rfl, rfl, rfl, rfl, rfl, rfl, rfl, rfl, rfl, rfl, trivial⟩ ⟨rfl, rfl, rfl, trivial⟩ rfl))) ?_
          rintro n2 again2 ih_again2 ⟨y1, used1⟩
          refine VS.seq ?_
          refine VS.seq ?_
          refine VS.region ?_
          refine X.lk ?_
          refine X.lk ?_
          refine X.lenT ?_
          refine X.lk ?_
          refine X.nil ?_
          refine ES.seq ?_
          refine VS.cond (fun h8 => ?_) (fun h8 => ?_)
          · refine VS.skip ?_
            refine ES.seq ?_
            refine VS.seq ?_
            refine VS.block ?_
            refine VS.seq ?_
            refine VS.region ?_
            refine X.lk ?_
            refine X.lk ?_
            refine X.idxM (l := done1) (i := y1) (fun h9 => ?_)
            refine X.ld (i := y1) h9 ?_
            refine X.lk ?_
            refine X.bif (b := (atD done1 y1)) (fun h10 => ?_) (fun h10 => ?_)
            · refine X.gY h10 ?_
              refine X.lk ?_
              refine X.gY h10 ?_
              refine X.lk ?_
              refine X.gY h10 ?_
              refine X.idxT (fun h11 => ?_)
              refine X.gY h10 ?_
              refine X.lk ?_
              refine X.gY h10 ?_
              refine X.lk ?_
              refine X.gY h10 ?_
              refine X.call true [] [] (r04_Has_ok (atD g1 (atD x4 i1)) y1) (fun x5 => ?_)
              refine X.pT h10 ?_
              refine X.nil ?_
              refine ES.seq ?_
              refine VS.cond (fun h12 => ?_) (fun h12 => ?_)
              · refine VS.drawn ?_
                refine X.lk ?_
                refine X.lk ?_
                refine X.lk ?_
                refine X.idxM (l := off1) (i := y1) (fun h13 => ?_)
                refine X.ld (i := y1) h13 ?_
                refine X.lk ?_
                refine X.lk ?_
                refine X.idxT (fun h14 => ?_)
                refine X.lk ?_
                refine X.lk ?_
                refine X.build ?_
                refine X.bs 3 ([(⟨(atD off1 y1), (atD s1 y1).Size⟩ : AInterval)] : List AInterval) row_AInterval ?_
                refine X.appMM 4 (l := used1) (l' := ([(⟨(atD off1 y1), (atD s1 y1).Size⟩ : AInterval)] : List AInterval)) (fun h15 => ?_)
                refine X.lk ?_
                refine X.nilD ?_ (by kernel_rfl)
                refine ES.blkN ?_
                refine ES.seq ?_
                refine VS.region ?_
                refine X.lk ?_
                refine X.ck fun h16 => ?_
                refine X.lk ?_
                refine X.nil ?_
                exact ES.go ih_again2 ((y1 + 1), (used1 ++ ([(⟨(atD off1 y1), (atD s1 y1).Size⟩ : AInterval)] : List AInterval))) ((St.le_mvB _ 4 2 rfl rfl rfl rfl).trans (St.le_sub ⟨rfl, rfl, rfl, rfl, rfl, rfl, rfl, rfl, rfl, rfl, trivial⟩ ⟨rfl, rfl, rfl, trivial⟩ rfl))
              · refine VS.skip ?_
                refine ES.blkN ?_
                refine ES.seq ?_
                refine VS.region ?_
                refine X.lk ?_
                refine X.ck fun h17 => ?_
                refine X.lk ?_
                refine X.nil ?_
                exact ES.go ih_again2 ((y1 + 1), used1) (St.le_sub ⟨rfl, rfl, rfl, rfl, rfl, rfl, rfl, rfl, rfl, rfl, trivial⟩ ⟨rfl, rfl, rfl, trivial⟩ rfl)
            · refine X.gN h10 ?_
              refine X.gN h10 ?_
              refine X.gN h10 ?_
              refine X.gN h10 ?_
              refine X.gN h10 ?_
              refine X.gN h10 ?_
              refine X.pF h10 ?_
              refine X.nil ?_
              refine ES.seq ?_
              refine VS.condF rfl ?_
              refine VS.skip ?_
              refine ES.blkN ?_
              refine ES.seq ?_
              refine VS.region ?_
              refine X.lk ?_
              refine X.ck fun h18 => ?_
              refine X.lk ?_
              refine X.nil ?_
              exact ES.go ih_again2 ((y1 + 1), used1) (St.le_sub ⟨rfl, rfl, rfl, rfl, rfl, rfl, rfl, rfl, rfl, rfl, trivial⟩ ⟨rfl, rfl, rfl, trivial⟩ rfl)
          · refine VS.exit ?_
            refine ES.thnE ?_
            refine ES.thnE ?_
            refine ES.blkE ?_
            refine ES.seq ?_
            refine VS.seq ?_
            refine VS.drawn ?_
            refine X.lk ?_
            refine X.lk ?_
            refine X.lk ?_
            refine X.lk ?_
            refine X.idxT (fun h19 => ?_)
            refine X.lk ?_
            refine X.lk ?_
            refine X.lk ?_
            refine X.lk ?_
            refine X.idxT (fun h20 => ?_)
            refine X.lk ?_
            refine X.lk ?_
            refine X.call false [(2, .sl 60 2 false (used1.map row_AInterval))] [] (r03_Fit_ok used1 from1 ((atD s1 (atD x4 i1)).Size) ((atD s1 (atD x4 i1)).Align)) (fun x6 => ?_) (hn := ⟨rfl, trivial⟩) (hsc := .inr ⟨rfl, fun _ => rfl⟩)
            refine X.lk ?_
            refine X.lk ?_
            refine X.lk ?_
            refine X.lk ?_
            refine X.lk ?_
            refine X.nilD ?_ (by kernel_rfl)
            refine ES.seq ?_
            refine VS.seq ?_
            refine VS.seq ?_
            refine VS.region ?_
            refine X.lk ?_
            refine X.lk ?_
            refine X.nil ?_
            refine ES.seq ?_
            refine VS.cond (fun h21 => ?_) (fun h21 => ?_)
            · refine VS.seq ?_
              refine VS.region ?_
              refine X.lk ?_
              refine X.lk ?_
              refine X.lk ?_
              refine X.nil ?_
              refine ES.seq ?_
              refine VS.ret ?_
              refine ES.thnR ?_
              refine ES.blkR ?_
              refine ES.thnR ?_
              refine ES.thnR ?_
              refine ES.blkR ?_
              refine ES.thnR ?_
              refine ES.ret ?_
              exact Ret.weak (St.le_nil _ 6 rfl) (Ret.clo [.c (.v (.tree (([] : List Int).map iRow))), .c (.v (.int .i64 x6.2))] ⟨rfl, rfl, trivial⟩ trivial)
            · refine VS.skip ?_
              refine ES.seq ?_
              refine VS.region ?_
              refine X.lk ?_
              refine X.lk ?_
              refine X.lk ?_
              refine X.lk ?_
              refine X.lk ?_
              refine X.idxM (l := off1) (i := (atD x4 i1)) (fun h22 => ?_)
              refine X.set (i := (atD x4 i1)) x6.1 h22 ?_
              refine X.idxM (l := done1) (i := (atD x4 i1)) (fun h23 => ?_)
              refine X.set (i := (atD x4 i1)) true h23 ?_
              refine X.nil ?_
              refine ES.blkN ?_
              refine ES.seq ?_
              refine VS.region ?_
              refine X.lk ?_
              refine X.ck fun h24 => ?_
              refine X.lk ?_
              refine X.nil ?_
              exact ES.go ih_again1 ((i1 + 1), (setD off1 (atD x4 i1) x6.1), (setD done1 (atD x4 i1) true)) (St.le_sub ⟨rfl, rfl, rfl, rfl, rfl, rfl, rfl, trivial⟩ ⟨rfl, rfl, trivial⟩ rfl)
        · refine VS.exit ?_
          refine ES.thnE ?_
          refine ES.thnE ?_
          refine ES.blkE ?_
          refine ES.seq ?_
          refine VS.seq ?_
          refine VS.region ?_
          refine X.lk ?_
          refine X.lk ?_
          refine X.lk ?_
          refine X.nil ?_
          refine ES.seq ?_
          refine VS.ret ?_
          refine ES.ret ?_
          exact Ret.weak (St.le_tree _ 6 0 rfl rfl) (Ret.clo [.c (.v (.tree (off1.map iRow))), .c (.v (.int .i64 0))] ⟨rfl, rfl, trivial⟩ trivial)
set_option maxHeartbeats 4000000 in
theorem r21_Replace_ok (p1 : AProgram) (i1 : Int) (f1 : AFunc) : ∀ r : AProgram, r21_Replace p1 i1 f1 r → FCalls Try.prog 123 [] [.agg ((row_AProgram p1).map .v), .c (.v (.int .i64 i1)), .agg ((row_AFunc f1).map .v)] (.w (.agg ((row_AProgram r).map .v))) [] [] := by
  refine fnS 17 ?_
  unfold r21_Replace
  refine VS.seq ?_
  refine VS.region ?_
  refine X.box 0 ?_
  refine X.box 1 ?_
  refine X.alloc 2 ?_
  refine X.nil ?_
  refine ES.seq ?_
  refine VS.seq ?_
  refine VS.region ?_
  refine X.lk ?_
  refine X.lk ?_
  refine X.appNT 3 (l' := p1.Funcs) (fun h1 => ?_)
  refine X.lk ?_
  refine X.nil ?_
  refine ES.seq ?_
  refine VS.seq ?_
  refine VS.region ?_
  refine X.lk ?_
  refine X.lk ?_
  refine X.lk ?_
  refine X.idxM (l := p1.Funcs) (i := i1) (fun h2 => ?_)
  refine X.set (i := i1) f1 h2 ?_
  refine X.nil ?_
  refine ES.seq ?_
  refine VS.seq ?_
  refine VS.region ?_
  refine X.lk ?_
  refine X.build ?_
  refine X.st ?_
  refine X.nil ?_
  refine ES.seq ?_
  refine VS.ret ?_
  refine ES.ret ?_
  exact Ret.weak (St.le_tcell _ 2 0 3 rfl rfl rfl rfl) (Ret.clo [.agg ((row_AProgram (⟨(setD p1.Funcs i1 f1)⟩ : AProgram)).map .v)] ⟨⟨_, _, _, _, _, _, rfl, rfl, fits rfl, rfl⟩, trivial⟩ trivial)
end Go.Proofs.Ytbppgdffochdmaa.Q
