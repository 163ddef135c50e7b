/- Walks of functions: the code does what the lifted text says (written by a program). -/
import Derived.Test.YtbppgdffochdmaaGr
set_option linter.unusedVariables false
set_option linter.unusedSimpArgs false
set_option maxRecDepth 8000
namespace Go.Proofs.Ytbppgdffochdmaa.Q
open Go.RowKit
set_option maxHeartbeats 4000000 in
theorem draw_New_ok (list1 : List Int) (limit1 : Int) : ∀ r : DCodes, draw_New list1 limit1 r → FCalls Try.prog 44 [] [.c (.v (.tree (list1.map bRow))), .c (.v (.int .i64 limit1))] (.w (.c (.ptr 0 0 0))) [.bx 105 ((row_DCodes r).map .v)] [] := by
  refine fnS 13 ?_
  unfold draw_New
  refine VS.seq ?_
  refine VS.region ?_
  refine X.lk ?_
  refine X.nil ?_
  refine ES.seq ?_
  refine VS.seq ?_
  refine VS.region ?_
  refine X.lk ?_
  refine X.lk ?_
  refine X.lenT ?_
  refine X.lk ?_
  refine X.min ?_
  refine X.sliceT none (some (min (list1.length : Int) limit1)) (fun h1 => ?_) trivial ⟨_, rfl⟩
  refine X.build ?_
  refine X.box 0 ?_
  refine X.lk ?_
  refine X.nil ?_
  refine ES.seq ?_
  refine VS.ret ?_
  refine ES.ret ?_
  exact Ret.cloE 0 [.c (.ptr 0 0 0)] ⟨rfl, trivial⟩ trivial
set_option maxHeartbeats 4000000 in
theorem draw_Left_ok (c1 : DCodes) : ∀ r : Bool × DCodes, draw_Left c1 r → FCalls Try.prog 86 [(105, row_DCodes c1)] [.c (.ptr 0 0 0)] (.w (.c (.v (.bool r.1)))) [] [(105, row_DCodes r.2)] := by
  refine fnS 13 ?_
  unfold draw_Left
  refine VS.seq ?_
  refine VS.region ?_
  refine X.lk ?_
  refine X.nil ?_
  refine ES.seq ?_
  refine VS.seq ?_
  refine VS.drawn ?_
  refine X.lk ?_
  refine X.lk ?_
  refine X.lk ?_
  refine X.lk ?_
  refine X.lk ?_
  refine X.lk ?_
  refine X.lk ?_
  refine X.lk ?_
  refine X.lenT ?_
  refine X.lk ?_
  refine X.lk ?_
  refine X.nilD ?_ (by kernel_rfl)
  refine ES.seq ?_
  refine VS.ret ?_
  refine ES.ret ?_
  exact Ret.clo [.c (.v (.bool (decide (c1.at_ < (c1.list.length : Int)))))] ⟨rfl, trivial⟩ ⟨rfl, trivial⟩
set_option maxHeartbeats 4000000 in
theorem draw_Next_ok (c1 : DCodes) (n1 : Int) : ∀ r : Int × DCodes, draw_Next c1 n1 r → FCalls Try.prog 48 [(105, row_DCodes c1)] [.c (.ptr 0 0 0), .c (.v (.int .i64 n1))] (.w (.c (.v (.int .i64 r.1)))) [] [(105, row_DCodes r.2)] := by
  refine fnS 35 ?_
  unfold draw_Next
  refine VS.seq ?_
  refine VS.region ?_
  refine X.lk ?_
  refine X.nil ?_
  refine ES.seq ?_
  refine VS.seq ?_
  refine VS.seq ?_
  refine VS.region ?_
  refine X.lk ?_
  refine X.call true [] [0] (draw_Left_ok c1) (fun x1 => ?_) (hn := ⟨rfl, trivial⟩)
  refine X.lk ?_
  refine X.lk ?_
  refine X.bif (b := (!x1.1)) (fun h1 => ?_) (fun h1 => ?_)
  · refine X.gN h1 ?_
    refine X.gN h1 ?_
    refine X.pT h1 ?_
    refine X.nil ?_
    refine ES.seq ?_
    refine VS.condT rfl ?_
    refine VS.seq ?_
    refine VS.region ?_
    refine X.lk ?_
    refine X.nil ?_
    refine ES.seq ?_
    refine VS.ret ?_
    refine ES.thnR ?_
    refine ES.ret ?_
    exact Ret.clo [.c (.v (.int .i64 0))] ⟨rfl, trivial⟩ ⟨rfl, trivial⟩
  · refine X.gY h1 ?_
    refine X.lk ?_
    refine X.gY h1 ?_
    refine X.lk ?_
    refine X.pF h1 ?_
    refine X.nil ?_
    refine ES.seq ?_
    refine VS.cond (fun h2 => ?_) (fun h2 => ?_)
    · refine VS.seq ?_
      refine VS.region ?_
      refine X.lk ?_
      refine X.nil ?_
      refine ES.seq ?_
      refine VS.ret ?_
      refine ES.thnR ?_
      refine ES.ret ?_
      exact Ret.clo [.c (.v (.int .i64 0))] ⟨rfl, trivial⟩ ⟨rfl, trivial⟩
    · refine VS.skip ?_
      refine ES.seq ?_
      refine VS.seq ?_
      refine VS.drawn ?_
      refine X.lk ?_
      refine X.lk ?_
      refine X.lk ?_
      refine X.lk ?_
      refine X.lk ?_
      refine X.lk ?_
      refine X.lk ?_
      refine X.lk ?_
      refine X.idxT (fun h3 => ?_)
      refine X.lk ?_
      refine X.convI fun h4 => ?_
      refine X.lk ?_
      refine X.nilD ?_ (by kernel_rfl)
      refine ES.seq ?_
      refine VS.seq ?_
      refine VS.region ?_
      refine X.lk ?_
      refine X.lk ?_
      refine X.lk ?_
      refine X.lk ?_
      refine X.ck fun h5 => ?_
      refine X.lk ?_
      refine X.lk ?_
      refine X.st ?_
      refine X.nil ?_
      refine ES.seq ?_
      refine VS.seq ?_
      refine VS.region ?_
      refine X.lk ?_
      refine X.lk ?_
      refine X.ck fun h6 => ?_
      refine X.ck fun h7 => ?_
      refine X.lk ?_
      refine X.nil ?_
      refine ES.seq ?_
      refine VS.ret ?_
      refine ES.ret ?_
      exact Ret.clo [.c (.v (.int .i64 (((atD x1.2.list x1.2.at_) * n1) / 256)))] ⟨rfl, trivial⟩ ⟨rfl, trivial⟩
set_option maxHeartbeats 4000000 in
theorem draw_Slot_ok (c1 : DCodes) : ∀ r : ASlot × DCodes, draw_Slot c1 r → FCalls Try.prog 136 [(105, row_DCodes c1)] [.c (.ptr 0 0 0)] (.w (.agg ((row_ASlot r.1).map .v))) [] [(105, row_DCodes r.2)] := by
  refine fnS 14 ?_
  unfold draw_Slot
  refine VS.seq ?_
  refine VS.region ?_
  refine X.alloc 1 ?_
  refine X.nil ?_
  refine ES.seq ?_
  refine VS.seq ?_
  refine VS.drawn ?_
  refine X.bs 2 ([8, 4, 8, 1, 2, 16, 8] : List Int) iRow ?_
  refine X.lk ?_
  refine X.call true [] [0] (draw_Next_ok c1 7) (fun x1 => ?_) (hn := ⟨rfl, trivial⟩)
  refine X.idxM (l := ([8, 4, 8, 1, 2, 16, 8] : List Int)) (i := x1.1) (fun h1 => ?_)
  refine X.ld (i := x1.1) h1 ?_
  refine X.bs 3 ([8, 4, 1, 8, 16, 2, 32, 64] : List Int) iRow ?_
  refine X.lk ?_
  refine X.call true [] [0] (draw_Next_ok x1.2 8) (fun x2 => ?_) (hn := ⟨rfl, trivial⟩)
  refine X.idxM (l := ([8, 4, 1, 8, 16, 2, 32, 64] : List Int)) (i := x2.1) (fun h2 => ?_)
  refine X.ld (i := x2.1) h2 ?_
  refine X.build ?_
  refine X.st ?_
  refine X.nilD ?_ (by kernel_rfl)
  refine ES.seq ?_
  refine VS.ret ?_
  refine ES.ret ?_
  exact Ret.clo [.agg ((row_ASlot (⟨(atD ([8, 4, 8, 1, 2, 16, 8] : List Int) x1.1), (atD ([8, 4, 1, 8, 16, 2, 32, 64] : List Int) x2.1)⟩ : ASlot)).map .v)] ⟨⟨_, _, _, _, _, _, rfl, rfl, fits rfl, rfl⟩, trivial⟩ ⟨rfl, trivial⟩
set_option maxHeartbeats 4000000 in
theorem draw_Slots_ok (c1 : DCodes) (most1 : Int) : ∀ r : List ASlot × DCodes, draw_Slots c1 most1 r → FCalls Try.prog 106 [(105, row_DCodes c1)] [.c (.ptr 0 0 0), .c (.v (.int .i64 most1))] (.w (.c (.v (.tree (r.1.map row_ASlot))))) [] [(105, row_DCodes r.2)] := by
  refine fnS 21 ?_
  unfold draw_Slots
  refine VS.seq ?_
  refine VS.region ?_
  refine X.lk ?_
  refine X.nil ?_
  refine ES.seq ?_
  refine VS.seq ?_
  refine VS.region ?_
  refine X.lk ?_
  refine X.nil ?_
  refine ES.seq ?_
  refine VS.seq ?_
  refine VS.seq ?_
  refine VS.region ?_
  refine X.lk ?_
  refine X.lk ?_
  refine X.ck fun h1 => ?_
  refine X.call true [] [0] (draw_Next_ok c1 (most1 + 1)) (fun x1 => ?_) (hn := ⟨rfl, trivial⟩)
  refine X.lk ?_
  refine X.nil ?_
  refine ES.seq ?_
  refine VS.block ?_
  refine VS.loop (fun jj : Int × DCodes × List ASlot => (⟨[(0, .w (.c (.ptr 0 0 0))), (5, .w (.c (.mref 1))), (6, .w (.c (.v (.int .i64 jj.1))))], [some (.bx 105 ((row_DCodes jj.2.1).map .v)), some (.sl 57 2 false (jj.2.2.map row_ASlot))]⟩ : St)) (j0 := (x1.1, x1.2, ([] : List ASlot))) ((St.le_keep _ [0, 5, 6]).trans ((St.le_adopt _ 5 1 57 2 rfl rfl).trans (St.le_sub ⟨rfl, rfl, rfl, trivial⟩ ⟨rfl, rfl, trivial⟩ rfl))) ?_
  rintro n2 again1 ih_again1 ⟨n1, c2, l1⟩
  refine VS.seq ?_
  refine VS.seq ?_
  refine VS.region ?_
  refine X.lk ?_
  refine X.lk ?_
  refine X.nil ?_
  refine ES.seq ?_
  refine VS.cond (fun h2 => ?_) (fun h2 => ?_)
  · refine VS.skip ?_
    refine ES.seq ?_
    refine VS.seq ?_
    refine VS.block ?_
    refine VS.region ?_
    refine X.lk ?_
    refine X.lk ?_
    refine X.call true [] [0] (draw_Slot_ok c2) (fun x2 => ?_) (hn := ⟨rfl, trivial⟩)
    refine X.bs 2 ([x2.1] : List ASlot) row_ASlot ?_
    refine X.appMM 3 (l := l1) (l' := ([x2.1] : List ASlot)) (fun h3 => ?_)
    refine X.lk ?_
    refine X.nil ?_
    refine ES.blkN ?_
    refine ES.seq ?_
    refine VS.region ?_
    refine X.lk ?_
    refine X.ck fun h4 => ?_
    refine X.lk ?_
    refine X.nil ?_
    exact ES.go ih_again1 ((n1 - 1), x2.2, (l1 ++ ([x2.1] : List ASlot))) ((St.le_mvB _ 3 1 rfl rfl rfl rfl).trans (St.le_sub ⟨rfl, rfl, rfl, trivial⟩ ⟨rfl, rfl, trivial⟩ rfl))
  · refine VS.exit ?_
    refine ES.thnE ?_
    refine ES.thnE ?_
    refine ES.blkE ?_
    refine ES.seq ?_
    refine VS.seq ?_
    refine VS.region ?_
    refine X.lk ?_
    refine X.lk ?_
    refine X.nil ?_
    refine ES.seq ?_
    refine VS.ret ?_
    refine ES.ret ?_
    exact Ret.weak (St.le_tree _ 4 1 rfl rfl) (Ret.clo [.c (.v (.tree (l1.map row_ASlot)))] ⟨rfl, trivial⟩ ⟨rfl, trivial⟩)
set_option maxHeartbeats 4000000 in
theorem draw_like_ok (c1 : DCodes) (f1 : AFunc) (s1 : Int) : ∀ r : Int × DCodes, draw_like c1 f1 s1 r → FCalls Try.prog 54 [(105, row_DCodes c1)] [.c (.ptr 0 0 0), .agg ((row_AFunc f1).map .v), .c (.v (.int .i64 s1))] (.w (.c (.v (.int .i64 r.1)))) [] [(105, row_DCodes r.2)] := by
  refine fnS 40 ?_
  unfold draw_like
  refine VS.seq ?_
  refine VS.region ?_
  refine X.box 1 ?_
  refine X.lk ?_
  refine X.nil ?_
  refine ES.seq ?_
  refine VS.seq ?_
  refine VS.region ?_
  refine X.lk ?_
  refine X.nil ?_
  refine ES.seq ?_
  refine VS.seq ?_
  refine VS.seq ?_
  refine VS.region ?_
  refine X.lk ?_
  refine X.nil ?_
  refine ES.seq ?_
  refine VS.block ?_
  refine VS.loop (fun jj : Int × List Int => (⟨[(0, .w (.c (.ptr 0 0 0))), (2, .w (.c (.v (.int .i64 s1)))), (4, .w (.c (.ptr 1 0 0))), (7, .w (.c (.mref 2))), (8, .w (.c (.v (.int .i64 jj.1))))], [some (.bx 105 ((row_DCodes c1).map .v)), some (.bx 35 ((row_AFunc f1).map .v)), some (.sl 3 1 false (jj.2.map iRow))]⟩ : St)) (j0 := (0, ([] : List Int))) ((St.le_keep _ [0, 2, 4, 7, 8]).trans ((St.le_adopt _ 7 2 3 1 rfl rfl).trans (St.le_sub ⟨rfl, rfl, rfl, rfl, rfl, trivial⟩ ⟨rfl, rfl, rfl, trivial⟩ rfl))) ?_
  rintro n1 again1 ih_again1 ⟨k1, l1⟩
  refine VS.seq ?_
  refine VS.seq ?_
  refine VS.region ?_
  refine X.lk ?_
  refine X.lk ?_
  refine X.lk ?_
  refine X.lenT ?_
  refine X.lk ?_
  refine X.nil ?_
  refine ES.seq ?_
  refine VS.cond (fun h1 => ?_) (fun h1 => ?_)
  · refine VS.skip ?_
    refine ES.seq ?_
    refine VS.seq ?_
    refine VS.block ?_
    refine VS.seq ?_
    refine VS.drawn ?_
    refine X.lk ?_
    refine X.lk ?_
    refine X.lk ?_
    refine X.idxT (fun h2 => ?_)
    refine X.lk ?_
    refine X.lk ?_
    refine X.lk ?_
    refine X.lk ?_
    refine X.lk ?_
    refine X.idxT (fun h3 => ?_)
    refine X.lk ?_
    refine X.lk ?_
    refine X.lk ?_
    refine X.nilD ?_ (by kernel_rfl)
    refine ES.seq ?_
    refine VS.cond (fun h4 => ?_) (fun h4 => ?_)
    · refine VS.region ?_
      refine X.lk ?_
      refine X.lk ?_
      refine X.bs 3 ([k1] : List Int) iRow ?_
      refine X.appMM 4 (l := l1) (l' := ([k1] : List Int)) (fun h5 => ?_)
      refine X.lk ?_
      refine X.nil ?_
      refine ES.blkN ?_
      refine ES.seq ?_
      refine VS.region ?_
      refine X.lk ?_
      refine X.ck fun h6 => ?_
      refine X.lk ?_
      refine X.nil ?_
      exact ES.go ih_again1 ((k1 + 1), (l1 ++ ([k1] : List Int))) ((St.le_mvB _ 4 2 rfl rfl rfl rfl).trans (St.le_sub ⟨rfl, rfl, rfl, rfl, rfl, trivial⟩ ⟨rfl, rfl, rfl, trivial⟩ rfl))
    · refine VS.skip ?_
      refine ES.blkN ?_
      refine ES.seq ?_
      refine VS.region ?_
      refine X.lk ?_
      refine X.ck fun h7 => ?_
      refine X.lk ?_
      refine X.nil ?_
      exact ES.go ih_again1 ((k1 + 1), l1) (St.le_sub ⟨rfl, rfl, rfl, rfl, rfl, trivial⟩ ⟨rfl, rfl, rfl, trivial⟩ rfl)
  · refine VS.exit ?_
    refine ES.thnE ?_
    refine ES.thnE ?_
    refine ES.blkE ?_
    refine ES.seq ?_
    refine VS.seq ?_
    refine VS.region ?_
    refine X.lk ?_
    refine X.lk ?_
    refine X.lk ?_
    refine X.lenM (l := l1) ?_
    refine X.call true [] [0] (draw_Next_ok c1 (l1.length : Int)) (fun x1 => ?_) (hn := ⟨rfl, trivial⟩)
    refine X.idxM (l := l1) (i := x1.1) (fun h8 => ?_)
    refine X.ld (i := x1.1) h8 ?_
    refine X.lk ?_
    refine X.nil ?_
    refine ES.seq ?_
    refine VS.ret ?_
    refine ES.ret ?_
    exact Ret.clo [.c (.v (.int .i64 (atD l1 x1.1)))] ⟨rfl, trivial⟩ ⟨rfl, trivial⟩
set_option maxHeartbeats 4000000 in
theorem draw_Word_ok (c1 : DCodes) : ∀ r : Int × DCodes, draw_Word c1 r → FCalls Try.prog 108 [(105, row_DCodes c1)] [.c (.ptr 0 0 0)] (.w (.c (.v (.int .u64 r.1)))) [] [(105, row_DCodes r.2)] := by
  refine fnS 21 ?_
  unfold draw_Word
  refine VS.seq ?_
  refine VS.region ?_
  refine X.lk ?_
  refine X.nil ?_
  refine ES.seq ?_
  refine VS.seq ?_
  refine VS.seq ?_
  refine VS.region ?_
  refine X.lk ?_
  refine X.call true [] [0] (draw_Next_ok c1 6) (fun x1 => ?_) (hn := ⟨rfl, trivial⟩)
  refine X.nil ?_
  refine ES.seq ?_
  refine VS.block ?_
  refine VS.seq ?_
  refine VS.region ?_
  refine X.lk ?_
  refine X.lk ?_
  refine X.nil ?_
  refine ES.seq ?_
  refine VS.cond (fun h1 => ?_) (fun h1 => ?_)
  · refine VS.seq ?_
    refine VS.region ?_
    refine X.lk ?_
    refine X.call true [] [0] (draw_Next_ok x1.2 3) (fun x2 => ?_) (hn := ⟨rfl, trivial⟩)
    refine X.convU fun h2 => ?_
    refine X.subU fun h3 => ?_
    refine X.lk ?_
    refine X.nil ?_
    refine ES.seq ?_
    refine VS.ret ?_
    refine ES.blkR ?_
    refine ES.thnR ?_
    refine ES.ret ?_
    exact Ret.clo [.c (.v (.int .u64 ((18446744073709551615 : Int) - x2.1)))] ⟨rfl, trivial⟩ ⟨rfl, trivial⟩
  · refine VS.seq ?_
    refine VS.region ?_
    refine X.lk ?_
    refine X.lk ?_
    refine X.nil ?_
    refine ES.seq ?_
    refine VS.cond (fun h4 => ?_) (fun h4 => ?_)
    · refine VS.seq ?_
      refine VS.region ?_
      refine X.lk ?_
      refine X.call true [] [0] (draw_Next_ok x1.2 64) (fun x3 => ?_) (hn := ⟨rfl, trivial⟩)
      refine X.shlU fun h5 => ?_
      refine X.lk ?_
      refine X.nil ?_
      refine ES.seq ?_
      refine VS.ret ?_
      refine ES.blkR ?_
      refine ES.thnR ?_
      refine ES.ret ?_
      exact Ret.clo [.c (.v (.int .u64 ((1 : Int) * 2 ^ x3.1.toNat)))] ⟨rfl, trivial⟩ ⟨rfl, trivial⟩
    · refine VS.seq ?_
      refine VS.region ?_
      refine X.lk ?_
      refine X.lk ?_
      refine X.nil ?_
      refine ES.seq ?_
      refine VS.cond (fun h6 => ?_) (fun h6 => ?_)
      · refine VS.seq ?_
        refine VS.region ?_
        refine X.lk ?_
        refine X.nil ?_
        refine ES.seq ?_
        refine VS.ret ?_
        refine ES.blkR ?_
        refine ES.thnR ?_
        refine ES.ret ?_
        exact Ret.clo [.c (.v (.int .u64 0))] ⟨rfl, trivial⟩ ⟨rfl, trivial⟩
      · refine VS.skip ?_
        refine ES.blkN ?_
        refine ES.seq ?_
        refine VS.seq ?_
        refine VS.region ?_
        refine X.lk ?_
        refine X.call true [] [0] (draw_Next_ok x1.2 256) (fun x4 => ?_) (hn := ⟨rfl, trivial⟩)
        refine X.convU fun h7 => ?_
        refine X.lk ?_
        refine X.nil ?_
        refine ES.seq ?_
        refine VS.ret ?_
        refine ES.ret ?_
        exact Ret.clo [.c (.v (.int .u64 x4.1))] ⟨rfl, trivial⟩ ⟨rfl, trivial⟩
set_option maxHeartbeats 4000000 in
theorem draw_body_ok (c1 : DCodes) (f1 : AFunc) (i1 : Int) (params1 : List Int) : ∀ r : List AInstr × DCodes, draw_body c1 f1 i1 params1 r → FCalls Try.prog 107 [(105, row_DCodes c1)] [.c (.ptr 0 0 0), .agg ((row_AFunc f1).map .v), .c (.v (.int .i64 i1)), .c (.v (.tree (params1.map iRow)))] (.w (.c (.v (.tree (r.1.map row_AInstr))))) [] [(105, row_DCodes r.2)] := by
  refine fnS 165 ?_
  unfold draw_body
  refine VS.seq ?_
  refine VS.region ?_
  refine X.box 1 ?_
  refine X.lk ?_
  refine X.nil ?_
  refine ES.seq ?_
  refine VS.seq ?_
  refine VS.region ?_
  refine X.lk ?_
  refine X.call true [] [0] (draw_Next_ok c1 4) (fun x1 => ?_) (hn := ⟨rfl, trivial⟩)
  refine X.lk ?_
  refine X.nil ?_
  refine ES.seq ?_
  refine VS.seq ?_
  refine VS.region ?_
  refine X.lk ?_
  refine X.lk ?_
  refine X.lenT ?_
  refine X.lk ?_
  refine X.nil ?_
  refine ES.seq ?_
  refine VS.seq ?_
  refine VS.region ?_
  refine X.lk ?_
  refine X.call true [] [0] (draw_Next_ok x1.2 20) (fun x2 => ?_) (hn := ⟨rfl, trivial⟩)
  refine X.lk ?_
  refine X.nil ?_
  refine ES.seq ?_
  refine VS.seq ?_
  refine VS.block ?_
  refine VS.join (fun (x3 : Bool) => (⟨[(0, .w (.c (.ptr 0 0 0))), (2, .w (.c (.v (.int .i64 i1)))), (3, .w (.c (.v (.tree (params1.map iRow))))), (5, .w (.c (.ptr 1 0 0))), (9, .w (.c (.v (.int .i64 x1.1)))), (10, .w (.c (.v (.int .i64 (f1.Slots.length : Int))))), (11, .w (.c (.v (.int .i64 x2.1)))), (23, .w (.c (.v (.bool x3))))], [some (.bx 105 ((row_DCodes x2.2).map .v)), some (.bx 35 ((row_AFunc f1).map .v))]⟩ : St)) ?_ ?_
  · rintro x3
    refine VS.cond (fun h1 => ?_) (fun h1 => ?_)
    · refine VS.seq ?_
      refine VS.region ?_
      refine X.lk ?_
      refine X.lk ?_
      refine X.call true [] [0] (draw_Next_ok x2.2 (f1.Slots.length : Int)) (fun x4 => ?_) (hn := ⟨rfl, trivial⟩)
      refine X.lk ?_
      refine X.build ?_
      refine X.bs 2 ([(⟨16, x4.1, x1.1, 0, 0⟩ : AInstr)] : List AInstr) row_AInstr ?_
      refine X.lk ?_
      refine X.nil ?_
      refine ES.seq ?_
      refine VS.ret ?_
      refine ES.blkR ?_
      refine ES.thnR ?_
      refine ES.ret ?_
      exact Ret.weak (St.le_tree _ 8 2 rfl rfl) (Ret.clo [.c (.v (.tree (([(⟨16, x4.1, x1.1, 0, 0⟩ : AInstr)] : List AInstr).map row_AInstr)))] ⟨rfl, trivial⟩ ⟨rfl, trivial⟩)
    · refine VS.join (fun (x5 : Bool) => (⟨[(0, .w (.c (.ptr 0 0 0))), (2, .w (.c (.v (.int .i64 i1)))), (3, .w (.c (.v (.tree (params1.map iRow))))), (5, .w (.c (.ptr 1 0 0))), (9, .w (.c (.v (.int .i64 x1.1)))), (10, .w (.c (.v (.int .i64 (f1.Slots.length : Int))))), (11, .w (.c (.v (.int .i64 x2.1)))), (36, .w (.c (.v (.bool x5))))], [some (.bx 105 ((row_DCodes x2.2).map .v)), some (.bx 35 ((row_AFunc f1).map .v))]⟩ : St)) ?_ ?_
      · rintro x5
        refine VS.cond (fun h2 => ?_) (fun h2 => ?_)
        · refine VS.seq ?_
          refine VS.region ?_
          refine X.lk ?_
          refine X.lk ?_
          refine X.lk ?_
          refine X.call true [] [0] (draw_Next_ok x2.2 (f1.Slots.length : Int)) (fun x6 => ?_) (hn := ⟨rfl, trivial⟩)
          refine X.build ?_
          refine X.bs 2 ([(⟨15, x1.1, x6.1, 0, 0⟩ : AInstr)] : List AInstr) row_AInstr ?_
          refine X.lk ?_
          refine X.nil ?_
          refine ES.seq ?_
          refine VS.ret ?_
          refine ES.blkR ?_
          refine ES.thnR ?_
          refine ES.ret ?_
          exact Ret.weak (St.le_tree _ 8 2 rfl rfl) (Ret.clo [.c (.v (.tree (([(⟨15, x1.1, x6.1, 0, 0⟩ : AInstr)] : List AInstr).map row_AInstr)))] ⟨rfl, trivial⟩ ⟨rfl, trivial⟩)
        · refine VS.join (fun (x7 : Bool) => (⟨[(0, .w (.c (.ptr 0 0 0))), (2, .w (.c (.v (.int .i64 i1)))), (3, .w (.c (.v (.tree (params1.map iRow))))), (5, .w (.c (.ptr 1 0 0))), (9, .w (.c (.v (.int .i64 x1.1)))), (10, .w (.c (.v (.int .i64 (f1.Slots.length : Int))))), (11, .w (.c (.v (.int .i64 x2.1)))), (49, .w (.c (.v (.bool x7))))], [some (.bx 105 ((row_DCodes x2.2).map .v)), some (.bx 35 ((row_AFunc f1).map .v))]⟩ : St)) ?_ ?_
          · rintro x7
            refine VS.cond (fun h3 => ?_) (fun h3 => ?_)
            · refine VS.seq ?_
              refine VS.region ?_
              refine X.lk ?_
              refine X.lk ?_
              refine X.call true [] [0] (draw_Next_ok x2.2 (f1.Slots.length : Int)) (fun x8 => ?_) (hn := ⟨rfl, trivial⟩)
              refine X.lk ?_
              refine X.nil ?_
              refine ES.seq ?_
              refine VS.seq ?_
              refine VS.region ?_
              refine X.lk ?_
              refine X.lk ?_
              refine X.lk ?_
              refine X.call true [] [0] (draw_like_ok x8.2 f1 x8.1) (fun x9 => ?_) (hn := ⟨rfl, trivial⟩)
              refine X.lk ?_
              refine X.build ?_
              refine X.bs 2 ([(⟨17, x9.1, x8.1, 0, 0⟩ : AInstr)] : List AInstr) row_AInstr ?_
              refine X.lk ?_
              refine X.nil ?_
              refine ES.seq ?_
              refine VS.ret ?_
              refine ES.blkR ?_
              refine ES.thnR ?_
              refine ES.ret ?_
              exact Ret.weak (St.le_tree _ 8 2 rfl rfl) (Ret.clo [.c (.v (.tree (([(⟨17, x9.1, x8.1, 0, 0⟩ : AInstr)] : List AInstr).map row_AInstr)))] ⟨rfl, trivial⟩ ⟨rfl, trivial⟩)
            · refine VS.seq ?_
              refine VS.region ?_
              refine X.lk ?_
              refine X.lk ?_
              refine X.lk ?_
              refine X.nil ?_
              refine ES.seq ?_
              refine VS.cond (fun h4 => ?_) (fun h4 => ?_)
              · refine VS.seq ?_
                refine VS.region ?_
                refine X.lk ?_
                refine X.lk ?_
                refine X.call true [] [0] (draw_Word_ok x2.2) (fun x10 => ?_) (hn := ⟨rfl, trivial⟩)
                refine X.build ?_
                refine X.bs 2 ([(⟨0, x1.1, 0, 0, x10.1⟩ : AInstr)] : List AInstr) row_AInstr ?_
                refine X.lk ?_
                refine X.nil ?_
                refine ES.seq ?_
                refine VS.ret ?_
                refine ES.blkR ?_
                refine ES.thnR ?_
                refine ES.ret ?_
                exact Ret.weak (St.le_tree _ 8 2 rfl rfl) (Ret.clo [.c (.v (.tree (([(⟨0, x1.1, 0, 0, x10.1⟩ : AInstr)] : List AInstr).map row_AInstr)))] ⟨rfl, trivial⟩ ⟨rfl, trivial⟩)
              · refine VS.seq ?_
                refine VS.region ?_
                refine X.lk ?_
                refine X.lk ?_
                refine X.lk ?_
                refine X.nil ?_
                refine ES.seq ?_
                refine VS.cond (fun h5 => ?_) (fun h5 => ?_)
                · refine VS.seq ?_
                  refine VS.region ?_
                  refine X.lk ?_
                  refine X.call true [] [0] (draw_Next_ok x2.2 10) (fun x11 => ?_) (hn := ⟨rfl, trivial⟩)
                  refine X.ck fun h6 => ?_
                  refine X.lk ?_
                  refine X.lk ?_
                  refine X.call true [] [0] (draw_Next_ok x11.2 4) (fun x12 => ?_) (hn := ⟨rfl, trivial⟩)
                  refine X.lk ?_
                  refine X.call true [] [0] (draw_Next_ok x12.2 8) (fun x13 => ?_) (hn := ⟨rfl, trivial⟩)
                  refine X.build ?_
                  refine X.bs 2 ([(⟨((2 : Int) + x11.1), x1.1, x12.1, x13.1, 0⟩ : AInstr)] : List AInstr) row_AInstr ?_
                  refine X.lk ?_
                  refine X.nil ?_
                  refine ES.seq ?_
                  refine VS.ret ?_
                  refine ES.blkR ?_
                  refine ES.thnR ?_
                  refine ES.ret ?_
                  exact Ret.weak (St.le_tree _ 8 2 rfl rfl) (Ret.clo [.c (.v (.tree (([(⟨((2 : Int) + x11.1), x1.1, x12.1, x13.1, 0⟩ : AInstr)] : List AInstr).map row_AInstr)))] ⟨rfl, trivial⟩ ⟨rfl, trivial⟩)
                · refine VS.seq ?_
                  refine VS.region ?_
                  refine X.lk ?_
                  refine X.lk ?_
                  refine X.lk ?_
                  refine X.nil ?_
                  refine ES.seq ?_
                  refine VS.cond (fun h7 => ?_) (fun h7 => ?_)
                  · refine VS.seq ?_
                    refine VS.region ?_
                    refine X.lk ?_
                    refine X.build ?_
                    refine X.bs 2 ([(⟨14, x1.1, 0, 0, 0⟩ : AInstr)] : List AInstr) row_AInstr ?_
                    refine X.lk ?_
                    refine X.nil ?_
                    refine ES.seq ?_
                    refine VS.ret ?_
                    refine ES.blkR ?_
                    refine ES.thnR ?_
                    refine ES.ret ?_
                    exact Ret.weak (St.le_tree _ 8 2 rfl rfl) (Ret.clo [.c (.v (.tree (([(⟨14, x1.1, 0, 0, 0⟩ : AInstr)] : List AInstr).map row_AInstr)))] ⟨rfl, trivial⟩ ⟨rfl, trivial⟩)
                  · refine VS.seq ?_
                    refine VS.region ?_
                    refine X.lk ?_
                    refine X.lk ?_
                    refine X.lk ?_
                    refine X.nil ?_
                    refine ES.seq ?_
                    refine VS.cond (fun h8 => ?_) (fun h8 => ?_)
                    · refine VS.seq ?_
                      refine VS.region ?_
                      refine X.bs 2 ([13, 12, 1] : List Int) iRow ?_
                      refine X.lk ?_
                      refine X.call true [] [0] (draw_Next_ok x2.2 3) (fun x14 => ?_) (hn := ⟨rfl, trivial⟩)
                      refine X.idxM (l := ([13, 12, 1] : List Int)) (i := x14.1) (fun h9 => ?_)
                      refine X.ld (i := x14.1) h9 ?_
                      refine X.lk ?_
                      refine X.build ?_
                      refine X.bs 3 ([(⟨(atD ([13, 12, 1] : List Int) x14.1), x1.1, 0, 0, 0⟩ : AInstr)] : List AInstr) row_AInstr ?_
                      refine X.lk ?_
                      refine X.nil ?_
                      refine ES.seq ?_
                      refine VS.ret ?_
                      refine ES.blkR ?_
                      refine ES.thnR ?_
                      refine ES.ret ?_
                      exact Ret.weak (St.le_tree _ 8 3 rfl rfl) (Ret.clo [.c (.v (.tree (([(⟨(atD ([13, 12, 1] : List Int) x14.1), x1.1, 0, 0, 0⟩ : AInstr)] : List AInstr).map row_AInstr)))] ⟨rfl, trivial⟩ ⟨rfl, trivial⟩)
                    · refine VS.join (fun (x15 : Bool) => (⟨[(0, .w (.c (.ptr 0 0 0))), (2, .w (.c (.v (.int .i64 i1)))), (3, .w (.c (.v (.tree (params1.map iRow))))), (5, .w (.c (.ptr 1 0 0))), (9, .w (.c (.v (.int .i64 x1.1)))), (11, .w (.c (.v (.int .i64 x2.1)))), (104, .w (.c (.v (.bool x15))))], [some (.bx 105 ((row_DCodes x2.2).map .v)), some (.bx 35 ((row_AFunc f1).map .v))]⟩ : St)) ?_ ?_
                      · rintro x15
                        refine VS.cond (fun h10 => ?_) (fun h10 => ?_)
                        · refine VS.seq ?_
                          refine VS.region ?_
                          refine X.lk ?_
                          refine X.lk ?_
                          refine X.lk ?_
                          refine X.lk ?_
                          refine X.call true [] [0] (draw_Next_ok x2.2 f1.Params) (fun x16 => ?_) (hn := ⟨rfl, trivial⟩)
                          refine X.build ?_
                          refine X.bs 2 ([(⟨19, x1.1, x16.1, 0, 0⟩ : AInstr)] : List AInstr) row_AInstr ?_
                          refine X.lk ?_
                          refine X.nil ?_
                          refine ES.seq ?_
                          refine VS.ret ?_
                          refine ES.blkR ?_
                          refine ES.thnR ?_
                          refine ES.ret ?_
                          exact Ret.weak (St.le_tree _ 8 2 rfl rfl) (Ret.clo [.c (.v (.tree (([(⟨19, x1.1, x16.1, 0, 0⟩ : AInstr)] : List AInstr).map row_AInstr)))] ⟨rfl, trivial⟩ ⟨rfl, trivial⟩)
                        · refine VS.seq ?_
                          refine VS.region ?_
                          refine X.lk ?_
                          refine X.lk ?_
                          refine X.lk ?_
                          refine X.bif (b := (decide (17 ≤ x2.1))) (fun h11 => ?_) (fun h11 => ?_)
                          · refine X.gY h11 ?_
                            refine X.lk ?_
                            refine X.gY h11 ?_
                            refine X.ck fun h12 => ?_
                            refine X.gY h11 ?_
                            refine X.lk ?_
                            refine X.gY h11 ?_
                            refine X.lenT ?_
                            refine X.gY h11 ?_
                            refine X.lk ?_
                            refine X.pT h11 ?_
                            refine X.lk ?_
                            refine X.nil ?_
                            refine ES.seq ?_
                            refine VS.cond (fun h13 => ?_) (fun h13 => ?_)
                            · refine VS.seq ?_
                              refine VS.region ?_
                              refine X.lk ?_
                              refine X.ck fun h14 => ?_
                              refine X.lk ?_
                              refine X.lk ?_
                              refine X.lenT ?_
                              refine X.lk ?_
                              refine X.ck fun h15 => ?_
                              refine X.ck fun h16 => ?_
                              refine X.call true [] [0] (draw_Next_ok x2.2 (((params1.length : Int) - i1) - 1)) (fun x17 => ?_) (hn := ⟨rfl, trivial⟩)
                              refine X.ck fun h17 => ?_
                              refine X.lk ?_
                              refine X.nil ?_
                              refine ES.seq ?_
                              refine VS.seq ?_
                              refine VS.region ?_
                              refine X.lk ?_
                              refine X.nil ?_
                              refine ES.seq ?_
                              refine VS.seq ?_
                              refine VS.seq ?_
                              refine VS.region ?_
                              refine X.lk ?_
                              refine X.nil ?_
                              refine ES.seq ?_
                              refine VS.block ?_
                              refine VS.loop (fun jj : Int × DCodes × List AInstr => (⟨[(0, .w (.c (.ptr 0 0 0))), (3, .w (.c (.v (.tree (params1.map iRow))))), (13, .w (.c (.v (.int .i64 ((i1 + 1) + x17.1))))), (14, .w (.c (.mref 1))), (15, .w (.c (.v (.int .i64 jj.1))))], [some (.bx 105 ((row_DCodes jj.2.1).map .v)), some (.sl 66 5 false (jj.2.2.map row_AInstr))]⟩ : St)) (j0 := (0, x17.2, ([] : List AInstr))) ((St.le_keep _ [0, 3, 13, 14, 15]).trans ((St.le_drop _ 1 (Nat.le_of_ble_eq_true rfl)).trans ((St.le_adopt _ 14 1 66 5 rfl rfl).trans (St.le_sub ⟨rfl, rfl, rfl, rfl, rfl, trivial⟩ ⟨rfl, rfl, trivial⟩ rfl)))) ?_
                              rintro n1 again1 ih_again1 ⟨a1, c2, out1⟩
                              refine VS.seq ?_
                              refine VS.seq ?_
                              refine VS.region ?_
                              refine X.lk ?_
                              refine X.lk ?_
                              refine X.lk ?_
                              refine X.idxT (fun h18 => ?_)
                              refine X.lk ?_
                              refine X.lk ?_
                              refine X.nil ?_
                              refine ES.seq ?_
                              refine VS.cond (fun h19 => ?_) (fun h19 => ?_)
                              · refine VS.skip ?_
                                refine ES.seq ?_
                                refine VS.seq ?_
                                refine VS.block ?_
                                refine VS.seq ?_
                                refine VS.region ?_
                                refine X.lk ?_
                                refine X.call true [] [0] (draw_Next_ok c2 8) (fun x18 => ?_) (hn := ⟨rfl, trivial⟩)
                                refine X.lk ?_
                                refine X.nil ?_
                                refine ES.seq ?_
                                refine VS.cond (fun h20 => ?_) (fun h20 => ?_)
                                · refine VS.region ?_
                                  refine X.lk ?_
                                  refine X.lk ?_
                                  refine X.lk ?_
                                  refine X.call true [] [0] (draw_Next_ok x18.2 4) (fun x19 => ?_) (hn := ⟨rfl, trivial⟩)
                                  refine X.build ?_
                                  refine X.bs 2 ([(⟨18, a1, x19.1, 0, 0⟩ : AInstr)] : List AInstr) row_AInstr ?_
                                  refine X.appMM 3 (l := out1) (l' := ([(⟨18, a1, x19.1, 0, 0⟩ : AInstr)] : List AInstr)) (fun h21 => ?_)
                                  refine X.lk ?_
                                  refine X.nil ?_
                                  refine ES.blkN ?_
                                  refine ES.seq ?_
                                  refine VS.region ?_
                                  refine X.lk ?_
                                  refine X.ck fun h22 => ?_
                                  refine X.lk ?_
                                  refine X.nil ?_
                                  exact ES.go ih_again1 ((a1 + 1), x19.2, (out1 ++ ([(⟨18, a1, x19.1, 0, 0⟩ : AInstr)] : List AInstr))) ((St.le_mvB _ 3 1 rfl rfl rfl rfl).trans (St.le_sub ⟨rfl, rfl, rfl, rfl, rfl, trivial⟩ ⟨rfl, rfl, trivial⟩ rfl))
                                · refine VS.skip ?_
                                  refine ES.blkN ?_
                                  refine ES.seq ?_
                                  refine VS.region ?_
                                  refine X.lk ?_
                                  refine X.ck fun h23 => ?_
                                  refine X.lk ?_
                                  refine X.nil ?_
                                  exact ES.go ih_again1 ((a1 + 1), x18.2, out1) (St.le_sub ⟨rfl, rfl, rfl, rfl, rfl, trivial⟩ ⟨rfl, rfl, trivial⟩ rfl)
                              · refine VS.exit ?_
                                refine ES.thnE ?_
                                refine ES.thnE ?_
                                refine ES.blkE ?_
                                refine ES.seq ?_
                                refine VS.seq ?_
                                refine VS.region ?_
                                refine X.lk ?_
                                refine X.lk ?_
                                refine X.build ?_
                                refine X.bs 2 ([(⟨22, ((i1 + 1) + x17.1), 0, 0, 0⟩ : AInstr)] : List AInstr) row_AInstr ?_
                                refine X.appMM 3 (l := out1) (l' := ([(⟨22, ((i1 + 1) + x17.1), 0, 0, 0⟩ : AInstr)] : List AInstr)) (fun h24 => ?_)
                                refine X.lk ?_
                                refine X.nil ?_
                                refine ES.seq ?_
                                refine VS.ret ?_
                                refine ES.blkR ?_
                                refine ES.thnR ?_
                                refine ES.ret ?_
                                exact Ret.weak (St.le_tree _ 8 3 rfl rfl) (Ret.clo [.c (.v (.tree ((out1 ++ ([(⟨22, ((i1 + 1) + x17.1), 0, 0, 0⟩ : AInstr)] : List AInstr)).map row_AInstr)))] ⟨rfl, trivial⟩ ⟨rfl, trivial⟩)
                            · refine VS.skip ?_
                              refine ES.blkN ?_
                              refine ES.seq ?_
                              refine VS.seq ?_
                              refine VS.region ?_
                              refine X.lk ?_
                              refine X.build ?_
                              refine X.bs 2 ([(⟨14, x1.1, 0, 0, 0⟩ : AInstr)] : List AInstr) row_AInstr ?_
                              refine X.lk ?_
                              refine X.nil ?_
                              refine ES.seq ?_
                              refine VS.ret ?_
                              refine ES.ret ?_
                              exact Ret.weak (St.le_tree _ 8 2 rfl rfl) (Ret.clo [.c (.v (.tree (([(⟨14, x1.1, 0, 0, 0⟩ : AInstr)] : List AInstr).map row_AInstr)))] ⟨rfl, trivial⟩ ⟨rfl, trivial⟩)
                          · refine X.gN h11 ?_
                            refine X.gN h11 ?_
                            refine X.gN h11 ?_
                            refine X.gN h11 ?_
                            refine X.gN h11 ?_
                            refine X.pF h11 ?_
                            refine X.lk ?_
                            refine X.nil ?_
                            refine ES.seq ?_
                            refine VS.condF rfl ?_
                            refine VS.skip ?_
                            refine ES.blkN ?_
                            refine ES.seq ?_
                            refine VS.seq ?_
                            refine VS.region ?_
                            refine X.lk ?_
                            refine X.build ?_
                            refine X.bs 2 ([(⟨14, x1.1, 0, 0, 0⟩ : AInstr)] : List AInstr) row_AInstr ?_
                            refine X.lk ?_
                            refine X.nil ?_
                            refine ES.seq ?_
                            refine VS.ret ?_
                            refine ES.ret ?_
                            exact Ret.weak (St.le_tree _ 8 2 rfl rfl) (Ret.clo [.c (.v (.tree (([(⟨14, x1.1, 0, 0, 0⟩ : AInstr)] : List AInstr).map row_AInstr)))] ⟨rfl, trivial⟩ ⟨rfl, trivial⟩)
                      · intro k4 ih_k4
                        refine VS.region ?_
                        refine X.lk ?_
                        refine X.lk ?_
                        refine X.lk ?_
                        refine X.bif (b := (decide (x2.1 = 16))) (fun h25 => ?_) (fun h25 => ?_)
                        · refine X.gY h25 ?_
                          refine X.lk ?_
                          refine X.gY h25 ?_
                          refine X.lk ?_
                          refine X.gY h25 ?_
                          refine X.lk ?_
                          refine X.pT h25 ?_
                          refine X.lk ?_
                          refine X.nil ?_
                          exact ES.jn ih_k4 (decide (0 < f1.Params)) (St.le_sub ⟨rfl, rfl, rfl, rfl, rfl, rfl, rfl, trivial⟩ ⟨rfl, rfl, trivial⟩ rfl)
                        · refine X.gN h25 ?_
                          refine X.gN h25 ?_
                          refine X.gN h25 ?_
                          refine X.pF h25 ?_
                          refine X.lk ?_
                          refine X.nil ?_
                          exact ES.jn ih_k4 false (St.le_sub ⟨rfl, rfl, rfl, rfl, rfl, rfl, rfl, trivial⟩ ⟨rfl, rfl, trivial⟩ rfl)
          · intro k3 ih_k3
            refine VS.region ?_
            refine X.lk ?_
            refine X.lk ?_
            refine X.lk ?_
            refine X.bif (b := (decide (x2.1 < 9))) (fun h26 => ?_) (fun h26 => ?_)
            · refine X.gY h26 ?_
              refine X.lk ?_
              refine X.gY h26 ?_
              refine X.lk ?_
              refine X.pT h26 ?_
              refine X.lk ?_
              refine X.nil ?_
              exact ES.jn ih_k3 (decide (0 < (f1.Slots.length : Int))) (St.le_sub ⟨rfl, rfl, rfl, rfl, rfl, rfl, rfl, rfl, trivial⟩ ⟨rfl, rfl, trivial⟩ rfl)
            · refine X.gN h26 ?_
              refine X.gN h26 ?_
              refine X.pF h26 ?_
              refine X.lk ?_
              refine X.nil ?_
              exact ES.jn ih_k3 false (St.le_sub ⟨rfl, rfl, rfl, rfl, rfl, rfl, rfl, rfl, trivial⟩ ⟨rfl, rfl, trivial⟩ rfl)
      · intro k2 ih_k2
        refine VS.region ?_
        refine X.lk ?_
        refine X.lk ?_
        refine X.lk ?_
        refine X.bif (b := (decide (x2.1 < 6))) (fun h27 => ?_) (fun h27 => ?_)
        · refine X.gY h27 ?_
          refine X.lk ?_
          refine X.gY h27 ?_
          refine X.lk ?_
          refine X.pT h27 ?_
          refine X.lk ?_
          refine X.nil ?_
          exact ES.jn ih_k2 (decide (0 < (f1.Slots.length : Int))) (St.le_sub ⟨rfl, rfl, rfl, rfl, rfl, rfl, rfl, rfl, trivial⟩ ⟨rfl, rfl, trivial⟩ rfl)
        · refine X.gN h27 ?_
          refine X.gN h27 ?_
          refine X.pF h27 ?_
          refine X.lk ?_
          refine X.nil ?_
          exact ES.jn ih_k2 false (St.le_sub ⟨rfl, rfl, rfl, rfl, rfl, rfl, rfl, rfl, trivial⟩ ⟨rfl, rfl, trivial⟩ rfl)
  · intro k1 ih_k1
    refine VS.region ?_
    refine X.lk ?_
    refine X.lk ?_
    refine X.lk ?_
    refine X.bif (b := (decide (x2.1 < 3))) (fun h28 => ?_) (fun h28 => ?_)
    · refine X.gY h28 ?_
      refine X.lk ?_
      refine X.gY h28 ?_
      refine X.lk ?_
      refine X.pT h28 ?_
      refine X.lk ?_
      refine X.nil ?_
      exact ES.jn ih_k1 (decide (0 < (f1.Slots.length : Int))) (St.le_sub ⟨rfl, rfl, rfl, rfl, rfl, rfl, rfl, rfl, trivial⟩ ⟨rfl, rfl, trivial⟩ rfl)
    · refine X.gN h28 ?_
      refine X.gN h28 ?_
      refine X.pF h28 ?_
      refine X.lk ?_
      refine X.nil ?_
      exact ES.jn ih_k1 false (St.le_sub ⟨rfl, rfl, rfl, rfl, rfl, rfl, rfl, rfl, trivial⟩ ⟨rfl, rfl, trivial⟩ rfl)
end Go.Proofs.Ytbppgdffochdmaa.Q
