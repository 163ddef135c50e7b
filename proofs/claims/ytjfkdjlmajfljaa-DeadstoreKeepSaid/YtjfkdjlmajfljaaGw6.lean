/- Walks of functions: the code does what the lifted text says (written by a program). -/
import Derived.Test.YtjfkdjlmajfljaaGw5
set_option linter.unusedVariables false
set_option linter.unusedSimpArgs false
set_option maxRecDepth 8000
namespace Go.Proofs.Ytjfkdjlmajfljaa.Q
open Go.RowKit
set_option maxHeartbeats 4000000 in
theorem law20_DeadstoreLeavesOnlyStoresOut_ok (codes1 : List Int) : ∀ r : Bool, law20_DeadstoreLeavesOnlyStoresOut codes1 r → FCalls Try.prog 7 [] [.c (.v (.tree (codes1.map bRow)))] (.w (.c (.v (.bool r)))) [] [] := by
  refine fnS 57 ?_
  unfold law20_DeadstoreLeavesOnlyStoresOut
  refine VS.seq ?_
  refine VS.region ?_
  refine X.lk ?_
  refine X.nil ?_
  refine ES.seq ?_
  refine VS.seq ?_
  refine VS.seq ?_
  refine VS.region ?_
  refine X.call true [] [] law20_awake_ok (fun x1 => ?_)
  refine X.lk ?_
  refine X.nil ?_
  refine ES.seq ?_
  refine VS.cond (fun h1 => ?_) (fun h1 => ?_)
  · refine VS.seq ?_
    refine VS.region ?_
    refine X.lk ?_
    refine X.nil ?_
    refine ES.seq ?_
    refine VS.ret ?_
    refine ES.thnR ?_
    refine ES.ret ?_
    exact Ret.clo [.c (.v (.bool false))] ⟨rfl, trivial⟩ trivial
  · refine VS.skip ?_
    refine ES.seq ?_
    refine VS.seq ?_
    refine VS.region ?_
    refine X.lk ?_
    refine X.callE 0 [] (law20_scene_ok codes1) (fun x2 => ?_)
    refine X.lk ?_
    refine X.lk ?_
    refine X.lk ?_
    refine X.lk ?_
    refine X.lk ?_
    refine X.alloc 1 ?_
    refine X.alloc 2 ?_
    refine X.st ?_
    refine X.st ?_
    refine X.lk ?_
    refine X.lk ?_
    refine X.nil ?_
    refine ES.seq ?_
    refine VS.seq ?_
    refine VS.region ?_
    refine X.lk ?_
    refine X.lk ?_
    refine X.lk ?_
    refine X.call true [] [] (deadstore_Keep_ok x2.1 x2.2.1 x2.2.2.1) (fun x3 => ?_)
    refine X.lk ?_
    refine X.nil ?_
    refine ES.seq ?_
    refine VS.seq ?_
    refine VS.seq ?_
    refine VS.region ?_
    refine X.lk ?_
    refine X.lenT ?_
    refine X.lk ?_
    refine X.lk ?_
    refine X.lenT ?_
    refine X.lk ?_
    refine X.lk ?_
    refine X.bif (b := (!decide ((x3.length : Int) = (x2.1.Code.length : Int)))) (fun h2 => ?_) (fun h2 => ?_)
    · refine X.gN h2 ?_
      refine X.gN h2 ?_
      refine X.gN h2 ?_
      refine X.gN h2 ?_
      refine X.gN h2 ?_
      refine X.gN h2 ?_
      refine X.gN h2 ?_
      refine X.pT h2 ?_
      refine X.nil ?_
      refine ES.seq ?_
      refine VS.condT rfl ?_
      refine VS.seq ?_
      refine VS.region ?_
      refine X.lk ?_
      refine X.nil ?_
      refine ES.seq ?_
      refine VS.ret ?_
      refine ES.thnR ?_
      refine ES.ret ?_
      exact Ret.clo [.c (.v (.bool false))] ⟨rfl, trivial⟩ trivial
    · refine X.gY h2 ?_
      refine X.lk ?_
      refine X.gY h2 ?_
      refine X.lk ?_
      refine X.gY h2 ?_
      refine X.lenT ?_
      refine X.gY h2 ?_
      refine X.ck fun h3 => ?_
      refine X.gY h2 ?_
      refine X.idxT (fun h4 => ?_)
      refine X.gY h2 ?_
      refine X.lk ?_
      refine X.gY h2 ?_
      refine X.lk ?_
      refine X.pF h2 ?_
      refine X.nil ?_
      refine ES.seq ?_
      refine VS.cond (fun h5 => ?_) (fun h5 => ?_)
      · refine VS.seq ?_
        refine VS.region ?_
        refine X.lk ?_
        refine X.nil ?_
        refine ES.seq ?_
        refine VS.ret ?_
        refine ES.thnR ?_
        refine ES.ret ?_
        exact Ret.clo [.c (.v (.bool false))] ⟨rfl, trivial⟩ trivial
      · refine VS.skip ?_
        refine ES.seq ?_
        refine VS.seq ?_
        refine VS.seq ?_
        refine VS.region ?_
        refine X.lk ?_
        refine X.nil ?_
        refine ES.seq ?_
        refine VS.block ?_
        refine VS.loop (fun (k1 : Int) => (⟨[(3, .w (.c (.ptr 0 0 0))), (7, .w (.c (.v (.tree (x3.map oRow))))), (8, .w (.c (.v (.int .i64 k1))))], [some (.bx 34 ((row_AFunc x2.1).map .v))]⟩ : St)) (j0 := 0) ((St.le_drop _ 0 (Nat.le_of_ble_eq_true rfl)).trans ((St.le_mvB _ 1 0 rfl rfl rfl rfl).trans (St.le_sub ⟨rfl, rfl, rfl, trivial⟩ ⟨rfl, trivial⟩ rfl))) ?_
        rintro n1 again1 ih_again1 k1
        refine VS.seq ?_
        refine VS.seq ?_
        refine VS.region ?_
        refine X.lk ?_
        refine X.lk ?_
        refine X.lenT ?_
        refine X.lk ?_
        refine X.nil ?_
        refine ES.seq ?_
        refine VS.cond (fun h6 => ?_) (fun h6 => ?_)
        · refine VS.skip ?_
          refine ES.seq ?_
          refine VS.seq ?_
          refine VS.block ?_
          refine VS.seq ?_
          refine VS.region ?_
          refine X.lk ?_
          refine X.lk ?_
          refine X.idxT (fun h7 => ?_)
          refine X.lk ?_
          refine X.lk ?_
          refine X.lk ?_
          refine X.bif (b := (!(atD x3 k1))) (fun h8 => ?_) (fun h8 => ?_)
          · refine X.gY h8 ?_
            refine X.lk ?_
            refine X.gY h8 ?_
            refine X.lk ?_
            refine X.gY h8 ?_
            refine X.lk ?_
            refine X.gY h8 ?_
            refine X.idxT (fun h9 => ?_)
            refine X.gY h8 ?_
            refine X.lk ?_
            refine X.gY h8 ?_
            refine X.call true [] [] (r15_Removable_ok (atD x2.1.Code k1)) (fun x4 => ?_)
            refine X.gY h8 ?_
            refine X.lk ?_
            refine X.pT h8 ?_
            refine X.nil ?_
            refine ES.seq ?_
            refine VS.cond (fun h10 => ?_) (fun h10 => ?_)
            · refine VS.seq ?_
              refine VS.region ?_
              refine X.lk ?_
              refine X.nil ?_
              refine ES.seq ?_
              refine VS.ret ?_
              refine ES.blkR ?_
              refine ES.thnR ?_
              refine ES.thnR ?_
              refine ES.blkR ?_
              refine ES.thnR ?_
              refine ES.ret ?_
              exact Ret.clo [.c (.v (.bool false))] ⟨rfl, trivial⟩ trivial
            · refine VS.skip ?_
              refine ES.blkN ?_
              refine ES.seq ?_
              refine VS.region ?_
              refine X.lk ?_
              refine X.ck fun h11 => ?_
              refine X.lk ?_
              refine X.nil ?_
              exact ES.go ih_again1 (k1 + 1) (St.le_sub ⟨rfl, rfl, rfl, trivial⟩ ⟨rfl, trivial⟩ rfl)
          · refine X.gN h8 ?_
            refine X.gN h8 ?_
            refine X.gN h8 ?_
            refine X.gN h8 ?_
            refine X.gN h8 ?_
            refine X.gN h8 ?_
            refine X.gN h8 ?_
            refine X.pF h8 ?_
            refine X.nil ?_
            refine ES.seq ?_
            refine VS.condF rfl ?_
            refine VS.skip ?_
            refine ES.blkN ?_
            refine ES.seq ?_
            refine VS.region ?_
            refine X.lk ?_
            refine X.ck fun h12 => ?_
            refine X.lk ?_
            refine X.nil ?_
            exact ES.go ih_again1 (k1 + 1) (St.le_sub ⟨rfl, rfl, rfl, trivial⟩ ⟨rfl, trivial⟩ rfl)
        · refine VS.exit ?_
          refine ES.thnE ?_
          refine ES.thnE ?_
          refine ES.blkE ?_
          refine ES.seq ?_
          refine VS.seq ?_
          refine VS.region ?_
          refine X.lk ?_
          refine X.nil ?_
          refine ES.seq ?_
          refine VS.ret ?_
          refine ES.ret ?_
          exact Ret.clo [.c (.v (.bool true))] ⟨rfl, trivial⟩ trivial
set_option maxHeartbeats 4000000 in
theorem bitset_within_int__ok (n1 : Int) : ∀ r : Bool, bitset_within_int_ n1 r → FCalls Try.prog 61 [] [.c (.v (.int .i64 n1))] (.w (.c (.v (.bool r)))) [] [] := by
  refine fnS 9 ?_
  unfold bitset_within_int_
  refine VS.seq ?_
  refine VS.region ?_
  refine X.lk ?_
  refine X.nil ?_
  refine ES.seq ?_
  refine VS.seq ?_
  refine VS.region ?_
  refine X.lk ?_
  refine X.lk ?_
  refine X.lk ?_
  refine X.bif (b := (decide (0 ≤ n1))) (fun h1 => ?_) (fun h1 => ?_)
  · refine X.gY h1 ?_
    refine X.lk ?_
    refine X.gY h1 ?_
    refine X.lk ?_
    refine X.pT h1 ?_
    refine X.lk ?_
    refine X.nil ?_
    refine ES.seq ?_
    refine VS.ret ?_
    refine ES.ret ?_
    exact Ret.clo [.c (.v (.bool (decide (n1 < 512))))] ⟨rfl, trivial⟩ trivial
  · refine X.gN h1 ?_
    refine X.gN h1 ?_
    refine X.pF h1 ?_
    refine X.lk ?_
    refine X.nil ?_
    refine ES.seq ?_
    refine VS.ret ?_
    refine ES.ret ?_
    exact Ret.clo [.c (.v (.bool false))] ⟨rfl, trivial⟩ trivial
end Go.Proofs.Ytjfkdjlmajfljaa.Q
