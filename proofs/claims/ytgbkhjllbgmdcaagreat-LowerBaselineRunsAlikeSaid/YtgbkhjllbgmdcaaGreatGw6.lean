/- Walks of functions: the code does what the lifted text says (written by a program). -/
import Derived.Test.YtgbkhjllbgmdcaaGreatGw5
set_option linter.unusedVariables false
set_option linter.unusedSimpArgs false
set_option maxRecDepth 8000
namespace Go.Proofs.YtgbkhjllbgmdcaaGreat.Q
open Go.RowKit
set_option maxHeartbeats 4000000 in
theorem r05_Operands_ok (op1:Int):∀r:Bool × Bool × Bool × Bool,r05_Operands op1 r→FCalls Tryz.prog 143 [] [.c (.v (.int .i64 op1))] (.tup [.c (.v (.bool r.1)),.c (.v (.bool r.2.1)),.c (.v (.bool r.2.2.1)),.c (.v (.bool r.2.2.2))]) [] []:=by
  refine fnS 36 ?_;unfold r05_Operands;refine VS.seq (VS.region ?_);(iterate 4 refine X.lk ?_);refine X.nil (ES.seq (VS.seq (VS.seq (VS.region ?_))));refine X.lk ?_;refine X.nil (ES.seq (VS.block (VS.seq (VS.region ?_))));(iterate 2 refine X.lk ?_);refine X.nil (ES.seq ?_)
  refine VS.cond (fun h1=>?_) (fun h1=>?_)
  · refine VS.seq (VS.region ?_);(iterate 4 refine X.lk ?_);refine X.nil (ES.seq (VS.ret (ES.blkR (ES.thnR ?_))));refine ES.ret ?_;exact Ret.clo [.c (.v (.bool true)),.c (.v (.bool false)),.c (.v (.bool false)),.c (.v (.bool true))] ⟨rfl,rfl,rfl,rfl,trivial⟩ trivial
  · refine VS.join (fun (x1 : Bool) => (⟨[(6, .w (.c (.v (.int .i64 op1)))), (9, .w (.c (.v (.bool x1))))], []⟩ : St)) ?_ ?_
    · rintro x1
      refine VS.cond (fun h2=>?_) (fun h2=>?_)
      · refine VS.seq (VS.region ?_);(iterate 4 refine X.lk ?_);refine X.nil (ES.seq (VS.ret (ES.blkR (ES.thnR ?_))));refine ES.ret ?_;exact Ret.clo [.c (.v (.bool true)),.c (.v (.bool true)),.c (.v (.bool false)),.c (.v (.bool false))] ⟨rfl,rfl,rfl,rfl,trivial⟩ trivial
      · refine VS.join (fun (x2:Bool)=>(⟨[(6,.w (.c (.v (.int .i64 op1)))),(18,.w (.c (.v (.bool x2))))],[]⟩:St)) ?_ ?_
        · rintro x2
          refine VS.cond (fun h3=>?_) (fun h3=>?_)
          · refine VS.seq (VS.region ?_);(iterate 4 refine X.lk ?_);refine X.nil (ES.seq (VS.ret (ES.blkR (ES.thnR ?_))));refine ES.ret ?_;exact Ret.clo [.c (.v (.bool true)),.c (.v (.bool true)),.c (.v (.bool true)),.c (.v (.bool false))] ⟨rfl,rfl,rfl,rfl,trivial⟩ trivial
          · refine VS.join (fun (x3:Bool)=>(⟨[(6,.w (.c (.v (.int .i64 op1)))),(29,.w (.c (.v (.bool x3))))],[]⟩:St)) ?_ ?_
            · rintro x3
              refine VS.cond (fun h4=>?_) (fun h4=>?_)
              · refine VS.seq (VS.region ?_);(iterate 4 refine X.lk ?_);refine X.nil (ES.seq (VS.ret (ES.blkR (ES.thnR ?_))));refine ES.ret ?_;exact Ret.clo [.c (.v (.bool true)),.c (.v (.bool false)),.c (.v (.bool false)),.c (.v (.bool false))] ⟨rfl,rfl,rfl,rfl,trivial⟩ trivial
              · refine VS.seq (VS.region ?_);(iterate 2 refine X.lk ?_);refine X.nil (ES.seq ?_)
                refine VS.cond (fun h5=>?_) (fun h5=>?_)
                · refine VS.seq (VS.region ?_);(iterate 4 refine X.lk ?_);refine X.nil (ES.seq (VS.ret (ES.blkR (ES.thnR ?_))));refine ES.ret ?_;exact Ret.clo [.c (.v (.bool false)),.c (.v (.bool false)),.c (.v (.bool false)),.c (.v (.bool true))] ⟨rfl,rfl,rfl,rfl,trivial⟩ trivial
                · refine VS.skip (ES.blkN (ES.seq (VS.seq (VS.region ?_))));(iterate 4 refine X.lk ?_);refine X.nil (ES.seq (VS.ret ?_));refine ES.ret ?_;exact Ret.clo [.c (.v (.bool false)),.c (.v (.bool false)),.c (.v (.bool false)),.c (.v (.bool false))] ⟨rfl,rfl,rfl,rfl,trivial⟩ trivial
            · intro k3 ih_k3;refine VS.seq (VS.region ?_);(iterate 2 refine X.lk ?_);refine X.nil (ES.seq ?_)
              refine VS.cond (fun h6=>?_) (fun h6=>?_)
              · refine VS.skip ?_;exact ES.jn ih_k3 (decide (op1=13)) (St.le_sub ⟨rfl,rfl,trivial⟩ trivial rfl)
              · refine VS.seq (VS.region ?_);(iterate 2 refine X.lk ?_);refine X.nil (ES.seq ?_)
                refine VS.cond (fun h7=>?_) (fun h7=>?_)
                · refine VS.skip ?_;exact ES.jn ih_k3 (decide (op1=14)) (St.le_sub ⟨rfl,rfl,trivial⟩ trivial rfl)
                · refine VS.seq (VS.region ?_);(iterate 2 refine X.lk ?_);refine X.nil (ES.seq ?_)
                  refine VS.cond (fun h8=>?_) (fun h8=>?_)
                  · refine VS.skip ?_;exact ES.jn ih_k3 (decide (op1=20)) (St.le_sub ⟨rfl,rfl,trivial⟩ trivial rfl)
                  · refine VS.region ?_;(iterate 2 refine X.lk ?_);refine X.nil ?_;exact ES.jn ih_k3 (decide (op1=22)) (St.le_sub ⟨rfl,rfl,trivial⟩ trivial rfl)
        · intro k2 ih_k2;refine VS.seq (VS.region ?_);(iterate 2 refine X.lk ?_);refine X.nil (ES.seq ?_)
          refine VS.cond (fun h9=>?_) (fun h9=>?_)
          · refine VS.skip ?_;exact ES.jn ih_k2 (decide (op1=2)) (St.le_sub ⟨rfl,rfl,trivial⟩ trivial rfl)
          · refine VS.seq (VS.region ?_);(iterate 2 refine X.lk ?_);refine X.nil (ES.seq ?_)
            refine VS.cond (fun h10=>?_) (fun h10=>?_)
            · refine VS.skip ?_;exact ES.jn ih_k2 (decide (op1=3)) (St.le_sub ⟨rfl,rfl,trivial⟩ trivial rfl)
            · refine VS.seq (VS.region ?_);(iterate 2 refine X.lk ?_);refine X.nil (ES.seq ?_)
              refine VS.cond (fun h11=>?_) (fun h11=>?_)
              · refine VS.skip ?_;exact ES.jn ih_k2 (decide (op1=4)) (St.le_sub ⟨rfl,rfl,trivial⟩ trivial rfl)
              · refine VS.seq (VS.region ?_);(iterate 2 refine X.lk ?_);refine X.nil (ES.seq ?_)
                refine VS.cond (fun h12=>?_) (fun h12=>?_)
                · refine VS.skip ?_;exact ES.jn ih_k2 (decide (op1=5)) (St.le_sub ⟨rfl,rfl,trivial⟩ trivial rfl)
                · refine VS.seq (VS.region ?_);(iterate 2 refine X.lk ?_);refine X.nil (ES.seq ?_)
                  refine VS.cond (fun h13=>?_) (fun h13=>?_)
                  · refine VS.skip ?_;exact ES.jn ih_k2 (decide (op1=6)) (St.le_sub ⟨rfl,rfl,trivial⟩ trivial rfl)
                  · refine VS.seq (VS.region ?_);(iterate 2 refine X.lk ?_);refine X.nil (ES.seq ?_)
                    refine VS.cond (fun h14=>?_) (fun h14=>?_)
                    · refine VS.skip ?_;exact ES.jn ih_k2 (decide (op1=7)) (St.le_sub ⟨rfl,rfl,trivial⟩ trivial rfl)
                    · refine VS.seq (VS.region ?_);(iterate 2 refine X.lk ?_);refine X.nil (ES.seq ?_)
                      refine VS.cond (fun h15=>?_) (fun h15=>?_)
                      · refine VS.skip ?_;exact ES.jn ih_k2 (decide (op1=8)) (St.le_sub ⟨rfl,rfl,trivial⟩ trivial rfl)
                      · refine VS.seq (VS.region ?_);(iterate 2 refine X.lk ?_);refine X.nil (ES.seq ?_)
                        refine VS.cond (fun h16=>?_) (fun h16=>?_)
                        · refine VS.skip ?_;exact ES.jn ih_k2 (decide (op1=9)) (St.le_sub ⟨rfl,rfl,trivial⟩ trivial rfl)
                        · refine VS.seq (VS.region ?_);(iterate 2 refine X.lk ?_);refine X.nil (ES.seq ?_)
                          refine VS.cond (fun h17=>?_) (fun h17=>?_)
                          · refine VS.skip ?_;exact ES.jn ih_k2 (decide (op1=10)) (St.le_sub ⟨rfl,rfl,trivial⟩ trivial rfl)
                          · refine VS.region ?_;(iterate 2 refine X.lk ?_);refine X.nil ?_;exact ES.jn ih_k2 (decide (op1=11)) (St.le_sub ⟨rfl,rfl,trivial⟩ trivial rfl)
    · intro k1 ih_k1;refine VS.seq (VS.region ?_);(iterate 2 refine X.lk ?_);refine X.nil (ES.seq ?_)
      refine VS.cond (fun h18=>?_) (fun h18=>?_)
      · refine VS.skip ?_;exact ES.jn ih_k1 (decide (op1=1)) (St.le_sub ⟨rfl,rfl,trivial⟩ trivial rfl)
      · refine VS.seq (VS.region ?_);(iterate 2 refine X.lk ?_);refine X.nil (ES.seq ?_)
        refine VS.cond (fun h19=>?_) (fun h19=>?_)
        · refine VS.skip ?_;exact ES.jn ih_k1 (decide (op1=12)) (St.le_sub ⟨rfl,rfl,trivial⟩ trivial rfl)
        · refine VS.seq (VS.region ?_);(iterate 2 refine X.lk ?_);refine X.nil (ES.seq ?_)
          refine VS.cond (fun h20=>?_) (fun h20=>?_)
          · refine VS.skip ?_;exact ES.jn ih_k1 (decide (op1=15)) (St.le_sub ⟨rfl,rfl,trivial⟩ trivial rfl)
          · refine VS.seq (VS.region ?_);(iterate 2 refine X.lk ?_);refine X.nil (ES.seq ?_)
            refine VS.cond (fun h21=>?_) (fun h21=>?_)
            · refine VS.skip ?_;exact ES.jn ih_k1 (decide (op1=16)) (St.le_sub ⟨rfl,rfl,trivial⟩ trivial rfl)
            · refine VS.seq (VS.region ?_);(iterate 2 refine X.lk ?_);refine X.nil (ES.seq ?_)
              refine VS.cond (fun h22=>?_) (fun h22=>?_)
              · refine VS.skip ?_;exact ES.jn ih_k1 (decide (op1=17)) (St.le_sub ⟨rfl,rfl,trivial⟩ trivial rfl)
              · refine VS.seq (VS.region ?_);(iterate 2 refine X.lk ?_);refine X.nil (ES.seq ?_)
                refine VS.cond (fun h23=>?_) (fun h23=>?_)
                · refine VS.skip ?_;exact ES.jn ih_k1 (decide (op1=18)) (St.le_sub ⟨rfl,rfl,trivial⟩ trivial rfl)
                · refine VS.seq (VS.region ?_);(iterate 2 refine X.lk ?_);refine X.nil (ES.seq ?_)
                  refine VS.cond (fun h24=>?_) (fun h24=>?_)
                  · refine VS.skip ?_;exact ES.jn ih_k1 (decide (op1=19)) (St.le_sub ⟨rfl,rfl,trivial⟩ trivial rfl)
                  · refine VS.region ?_;(iterate 2 refine X.lk ?_);refine X.nil ?_;exact ES.jn ih_k1 (decide (op1=21)) (St.le_sub ⟨rfl,rfl,trivial⟩ trivial rfl)
set_option maxHeartbeats 4000000 in
theorem r05_register_ok (n1:Int):∀r:Bool,r05_register n1 r→FCalls Tryz.prog 169 [] [.c (.v (.int .i64 n1))] (.w (.c (.v (.bool r)))) [] []:=by
  refine fnS 9 ?_;unfold r05_register;refine VS.seq (VS.region ?_);refine X.lk ?_;refine X.nil (ES.seq (VS.seq (VS.region ?_)));(iterate 3 refine X.lk ?_)
  refine X.bif (b:=(decide (0≤n1))) (fun h1=>?_) (fun h1=>?_)
  · refine X.gY h1 ?_;refine X.lk ?_;refine X.gY h1 ?_;refine X.lk ?_;refine X.pT h1 ?_;refine X.lk ?_;refine X.nil (ES.seq (VS.ret ?_));refine ES.ret ?_;exact Ret.clo [.c (.v (.bool (decide (n1<8))))] ⟨rfl,trivial⟩ trivial
  · refine X.gN h1 ?_;refine X.gN h1 ?_;refine X.pF h1 ?_;refine X.lk ?_;refine X.nil (ES.seq (VS.ret ?_));refine ES.ret ?_;exact Ret.clo [.c (.v (.bool false))] ⟨rfl,trivial⟩ trivial
set_option maxHeartbeats 4000000 in
theorem r05_operands_ok (p1 : AProgram) (f1 : AFunc) (x1 : AInstr) : ∀ r : Bool, r05_operands p1 f1 x1 r → FCalls Tryz.prog 144 [] [.agg ((row_AProgram p1).map .v), .agg ((row_AFunc f1).map .v), .agg ((row_AInstr x1).map .v)] (.w (.c (.v (.bool r)))) [] [] := by
  refine fnS 128 ?_;unfold r05_operands;refine VS.seq (VS.region ?_);refine X.box 0 ?_;refine X.box 1 ?_;refine X.box 2 ?_;refine X.lk ?_;refine X.nil (ES.seq (VS.seq (VS.seq (VS.region ?_))));(iterate 2 refine X.lk ?_);refine X.nil (ES.seq (VS.block ?_))
  refine VS.join (fun (x2:Bool)=>(⟨[(3,.w (.c (.ptr 0 0 0))),(4,.w (.c (.ptr 1 0 0))),(5,.w (.c (.ptr 2 0 0))),(8,.w (.c (.v (.int .i64 x1.Op)))),(9,.w (.c (.v (.bool x2))))],[some (.bx 28 ((row_AProgram p1).map .v)),some (.bx 60 ((row_AFunc f1).map .v)),some (.bx 62 ((row_AInstr x1).map .v))]⟩:St)) ?_ ?_
  · rintro x2
    refine VS.cond (fun h1=>?_) (fun h1=>?_)
    · refine VS.seq (VS.region ?_);(iterate 2 refine X.lk ?_);refine X.call true [] [] (r05_register_ok x1.A) (fun x3=>?_);refine X.lk ?_;refine X.nil (ES.seq (VS.ret (ES.blkR (ES.thnR ?_))));refine ES.ret ?_;exact Ret.clo [.c (.v (.bool x3))] ⟨rfl,trivial⟩ trivial
    · refine VS.join (fun (x4 : Bool) => (⟨[(3, .w (.c (.ptr 0 0 0))), (4, .w (.c (.ptr 1 0 0))), (5, .w (.c (.ptr 2 0 0))), (8, .w (.c (.v (.int .i64 x1.Op)))), (16, .w (.c (.v (.bool x4))))], [some (.bx 28 ((row_AProgram p1).map .v)), some (.bx 60 ((row_AFunc f1).map .v)), some (.bx 62 ((row_AInstr x1).map .v))]⟩ : St)) ?_ ?_
      · rintro x4
        refine VS.cond (fun h2=>?_) (fun h2=>?_)
        · refine VS.seq (VS.region ?_);(iterate 2 refine X.lk ?_);refine X.call true [] [] (r05_register_ok x1.A) (fun x5=>?_);refine X.lk ?_
          refine X.bif (b:=x5) (fun h3=>?_) (fun h3=>?_)
          · refine X.gY h3 ?_;refine X.lk ?_;refine X.gY h3 ?_;refine X.lk ?_;refine X.gY h3 ?_;refine X.call true [] [] (r05_register_ok x1.B) (fun x6=>?_);refine X.pT h3 ?_;refine X.lk ?_;refine X.nil (ES.seq (VS.ret (ES.blkR (ES.thnR ?_))));refine ES.ret ?_;exact Ret.clo [.c (.v (.bool x6))] ⟨rfl,trivial⟩ trivial
          · refine X.gN h3 ?_;refine X.gN h3 ?_;refine X.gN h3 ?_;refine X.pF h3 ?_;refine X.lk ?_;refine X.nil (ES.seq (VS.ret (ES.blkR (ES.thnR ?_))));refine ES.ret ?_;exact Ret.clo [.c (.v (.bool false))] ⟨rfl,trivial⟩ trivial
        · refine VS.join (fun (x7:Bool)=>(⟨[(3,.w (.c (.ptr 0 0 0))),(4,.w (.c (.ptr 1 0 0))),(5,.w (.c (.ptr 2 0 0))),(8,.w (.c (.v (.int .i64 x1.Op)))),(27,.w (.c (.v (.bool x7))))],[some (.bx 28 ((row_AProgram p1).map .v)),some (.bx 60 ((row_AFunc f1).map .v)),some (.bx 62 ((row_AInstr x1).map .v))]⟩:St)) ?_ ?_
          · rintro x7
            refine VS.cond (fun h4=>?_) (fun h4=>?_)
            · refine VS.seq (VS.region ?_);(iterate 2 refine X.lk ?_);refine X.call true [] [] (r05_register_ok x1.A) (fun x8=>?_);refine X.lk ?_
              refine X.bif (b:=x8) (fun h5=>?_) (fun h5=>?_)
              · refine X.gY h5 ?_;refine X.lk ?_;refine X.gY h5 ?_;refine X.lk ?_;refine X.gY h5 ?_;refine X.call true [] [] (r05_register_ok x1.B) (fun x9=>?_);refine X.pT h5 ?_;refine X.lk ?_
                refine X.bif (b:=x9) (fun h6=>?_) (fun h6=>?_)
                · refine X.gY h6 ?_;refine X.lk ?_;refine X.gY h6 ?_;refine X.lk ?_;refine X.gY h6 ?_;refine X.call true [] [] (r05_register_ok x1.C) (fun x10=>?_);refine X.pT h6 ?_;refine X.lk ?_;refine X.nil (ES.seq (VS.ret (ES.blkR (ES.thnR ?_))));refine ES.ret ?_;exact Ret.clo [.c (.v (.bool x10))] ⟨rfl,trivial⟩ trivial
                · refine X.gN h6 ?_;refine X.gN h6 ?_;refine X.gN h6 ?_;refine X.pF h6 ?_;refine X.lk ?_;refine X.nil (ES.seq (VS.ret (ES.blkR (ES.thnR ?_))));refine ES.ret ?_;exact Ret.clo [.c (.v (.bool false))] ⟨rfl,trivial⟩ trivial
              · refine X.gN h5 ?_;refine X.gN h5 ?_;refine X.gN h5 ?_;refine X.pF h5 ?_;refine X.lk ?_;refine X.gN rfl ?_;refine X.gN rfl ?_;refine X.gN rfl ?_;refine X.pF rfl ?_;refine X.lk ?_;refine X.nil (ES.seq (VS.ret (ES.blkR (ES.thnR ?_))));refine ES.ret ?_;exact Ret.clo [.c (.v (.bool false))] ⟨rfl,trivial⟩ trivial
            · refine VS.seq (VS.region ?_);(iterate 2 refine X.lk ?_);refine X.nil (ES.seq ?_)
              refine VS.cond (fun h7=>?_) (fun h7=>?_)
              · refine VS.seq (VS.region ?_);(iterate 2 refine X.lk ?_);refine X.call true [] [] (r05_register_ok x1.A) (fun x11=>?_);refine X.lk ?_
                refine X.bif (b:=x11) (fun h8=>?_) (fun h8=>?_)
                · refine X.gY h8 ?_;refine X.lk ?_;refine X.gY h8 ?_;refine X.lk ?_;refine X.gY h8 ?_;refine X.lk ?_;refine X.gY h8 ?_;refine X.lk ?_;refine X.gY h8 ?_;refine X.lenT ?_;refine X.gY h8 ?_;refine X.call true [] [] (r05_within_ok x1.B (f1.Slots.length:Int)) (fun x12=>?_);refine X.pT h8 ?_;refine X.lk ?_;refine X.nil (ES.seq (VS.ret (ES.blkR (ES.thnR ?_))));refine ES.ret ?_;exact Ret.clo [.c (.v (.bool x12))] ⟨rfl,trivial⟩ trivial
                · refine X.gN h8 ?_;refine X.gN h8 ?_;refine X.gN h8 ?_;refine X.gN h8 ?_;refine X.gN h8 ?_;refine X.gN h8 ?_;refine X.pF h8 ?_;refine X.lk ?_;refine X.nil (ES.seq (VS.ret (ES.blkR (ES.thnR ?_))));refine ES.ret ?_;exact Ret.clo [.c (.v (.bool false))] ⟨rfl,trivial⟩ trivial
              · refine VS.seq (VS.region ?_);(iterate 2 refine X.lk ?_);refine X.nil (ES.seq ?_)
                refine VS.cond (fun h9=>?_) (fun h9=>?_)
                · refine VS.seq (VS.region ?_);(iterate 4 refine X.lk ?_);refine X.lenT ?_;refine X.call true [] [] (r05_within_ok x1.A (f1.Slots.length:Int)) (fun x13=>?_);refine X.lk ?_
                  refine X.bif (b:=x13) (fun h10=>?_) (fun h10=>?_)
                  · refine X.gY h10 ?_;refine X.lk ?_;refine X.gY h10 ?_;refine X.lk ?_;refine X.gY h10 ?_;refine X.call true [] [] (r05_register_ok x1.B) (fun x14=>?_);refine X.pT h10 ?_;refine X.lk ?_;refine X.nil (ES.seq (VS.ret (ES.blkR (ES.thnR ?_))));refine ES.ret ?_;exact Ret.clo [.c (.v (.bool x14))] ⟨rfl,trivial⟩ trivial
                  · refine X.gN h10 ?_;refine X.gN h10 ?_;refine X.gN h10 ?_;refine X.pF h10 ?_;refine X.lk ?_;refine X.nil (ES.seq (VS.ret (ES.blkR (ES.thnR ?_))));refine ES.ret ?_;exact Ret.clo [.c (.v (.bool false))] ⟨rfl,trivial⟩ trivial
                · refine VS.seq (VS.region ?_);(iterate 2 refine X.lk ?_);refine X.nil (ES.seq ?_)
                  refine VS.cond (fun h11=>?_) (fun h11=>?_)
                  · refine VS.seq (VS.region ?_);(iterate 4 refine X.lk ?_);refine X.lenT ?_;refine X.call true [] [] (r05_within_ok x1.A (f1.Slots.length:Int)) (fun x15=>?_);refine X.lk ?_
                    refine X.bif (b:=x15) (fun h12=>?_) (fun h12=>?_)
                    · refine X.gY h12 ?_;refine X.lk ?_;refine X.gY h12 ?_;refine X.lk ?_;refine X.gY h12 ?_;refine X.lk ?_;refine X.gY h12 ?_;refine X.lk ?_;refine X.gY h12 ?_;refine X.lenT ?_;refine X.gY h12 ?_;refine X.call true [] [] (r05_within_ok x1.B (f1.Slots.length:Int)) (fun x16=>?_);refine X.pT h12 ?_;refine X.lk ?_;refine X.nil (ES.seq (VS.ret (ES.blkR (ES.thnR ?_))));refine ES.ret ?_;exact Ret.clo [.c (.v (.bool x16))] ⟨rfl,trivial⟩ trivial
                    · refine X.gN h12 ?_;refine X.gN h12 ?_;refine X.gN h12 ?_;refine X.gN h12 ?_;refine X.gN h12 ?_;refine X.gN h12 ?_;refine X.pF h12 ?_;refine X.lk ?_;refine X.nil (ES.seq (VS.ret (ES.blkR (ES.thnR ?_))));refine ES.ret ?_;exact Ret.clo [.c (.v (.bool false))] ⟨rfl,trivial⟩ trivial
                  · refine VS.seq (VS.region ?_);(iterate 2 refine X.lk ?_);refine X.nil (ES.seq ?_)
                    refine VS.cond (fun h13=>?_) (fun h13=>?_)
                    · refine VS.seq (VS.region ?_);(iterate 2 refine X.lk ?_);refine X.call true [] [] (r05_within_ok x1.A 8) (fun x17=>?_);refine X.lk ?_
                      refine X.bif (b:=x17) (fun h14=>?_) (fun h14=>?_)
                      · refine X.gY h14 ?_;refine X.lk ?_;refine X.gY h14 ?_;refine X.lk ?_;refine X.gY h14 ?_;refine X.call true [] [] (r05_register_ok x1.B) (fun x18=>?_);refine X.pT h14 ?_;refine X.lk ?_;refine X.nil (ES.seq (VS.ret (ES.blkR (ES.thnR ?_))));refine ES.ret ?_;exact Ret.clo [.c (.v (.bool x18))] ⟨rfl,trivial⟩ trivial
                      · refine X.gN h14 ?_;refine X.gN h14 ?_;refine X.gN h14 ?_;refine X.pF h14 ?_;refine X.lk ?_;refine X.nil (ES.seq (VS.ret (ES.blkR (ES.thnR ?_))));refine ES.ret ?_;exact Ret.clo [.c (.v (.bool false))] ⟨rfl,trivial⟩ trivial
                    · refine VS.seq (VS.region ?_);(iterate 2 refine X.lk ?_);refine X.nil (ES.seq ?_)
                      refine VS.cond (fun h15=>?_) (fun h15=>?_)
                      · refine VS.seq (VS.region ?_);(iterate 2 refine X.lk ?_);refine X.call true [] [] (r05_register_ok x1.A) (fun x19=>?_);refine X.lk ?_
                        refine X.bif (b:=x19) (fun h16=>?_) (fun h16=>?_)
                        · refine X.gY h16 ?_;refine X.lk ?_;refine X.gY h16 ?_;refine X.lk ?_;refine X.gY h16 ?_;refine X.lk ?_;refine X.gY h16 ?_;refine X.lk ?_;refine X.gY h16 ?_;refine X.call true [] [] (r05_within_ok x1.B f1.Params) (fun x20=>?_);refine X.pT h16 ?_;refine X.lk ?_;refine X.nil (ES.seq (VS.ret (ES.blkR (ES.thnR ?_))));refine ES.ret ?_;exact Ret.clo [.c (.v (.bool x20))] ⟨rfl,trivial⟩ trivial
                        · refine X.gN h16 ?_;refine X.gN h16 ?_;refine X.gN h16 ?_;refine X.gN h16 ?_;refine X.gN h16 ?_;refine X.pF h16 ?_;refine X.lk ?_;refine X.nil (ES.seq (VS.ret (ES.blkR (ES.thnR ?_))));refine ES.ret ?_;exact Ret.clo [.c (.v (.bool false))] ⟨rfl,trivial⟩ trivial
                      · refine VS.seq (VS.region ?_);(iterate 2 refine X.lk ?_);refine X.nil (ES.seq ?_)
                        refine VS.cond (fun h17=>?_) (fun h17=>?_)
                        · refine VS.seq (VS.region ?_);(iterate 2 refine X.lk ?_);refine X.call true [] [] (r05_register_ok x1.A) (fun x21=>?_);refine X.lk ?_;refine X.nil (ES.seq (VS.ret (ES.blkR (ES.thnR ?_))));refine ES.ret ?_;exact Ret.clo [.c (.v (.bool x21))] ⟨rfl,trivial⟩ trivial
                        · refine VS.seq (VS.region ?_);(iterate 2 refine X.lk ?_);refine X.nil (ES.seq ?_)
                          refine VS.cond (fun h18=>?_) (fun h18=>?_)
                          · refine VS.seq (VS.region ?_);(iterate 4 refine X.lk ?_);refine X.lenT ?_;refine X.call true [] [] (r05_within_ok x1.A (p1.Funcs.length:Int)) (fun x22=>?_);refine X.lk ?_;refine X.nil (ES.seq (VS.ret (ES.blkR (ES.thnR ?_))));refine ES.ret ?_;exact Ret.clo [.c (.v (.bool x22))] ⟨rfl,trivial⟩ trivial
                          · refine VS.skip (ES.blkN (ES.seq (VS.seq (VS.region ?_))));refine X.lk ?_;refine X.nil (ES.seq (VS.ret ?_));refine ES.ret ?_;exact Ret.clo [.c (.v (.bool true))] ⟨rfl,trivial⟩ trivial
          · intro k3 ih_k3;refine VS.seq (VS.region ?_);(iterate 2 refine X.lk ?_);refine X.nil (ES.seq ?_)
            refine VS.cond (fun h19=>?_) (fun h19=>?_)
            · refine VS.skip ?_;exact ES.jn ih_k3 (decide (x1.Op=2)) (St.le_sub ⟨rfl,rfl,rfl,rfl,rfl,trivial⟩ ⟨rfl,rfl,rfl,trivial⟩ rfl)
            · refine VS.seq (VS.region ?_);(iterate 2 refine X.lk ?_);refine X.nil (ES.seq ?_)
              refine VS.cond (fun h20=>?_) (fun h20=>?_)
              · refine VS.skip ?_;exact ES.jn ih_k3 (decide (x1.Op=3)) (St.le_sub ⟨rfl,rfl,rfl,rfl,rfl,trivial⟩ ⟨rfl,rfl,rfl,trivial⟩ rfl)
              · refine VS.seq (VS.region ?_);(iterate 2 refine X.lk ?_);refine X.nil (ES.seq ?_)
                refine VS.cond (fun h21=>?_) (fun h21=>?_)
                · refine VS.skip ?_;exact ES.jn ih_k3 (decide (x1.Op=4)) (St.le_sub ⟨rfl,rfl,rfl,rfl,rfl,trivial⟩ ⟨rfl,rfl,rfl,trivial⟩ rfl)
                · refine VS.seq (VS.region ?_);(iterate 2 refine X.lk ?_);refine X.nil (ES.seq ?_)
                  refine VS.cond (fun h22=>?_) (fun h22=>?_)
                  · refine VS.skip ?_;exact ES.jn ih_k3 (decide (x1.Op=5)) (St.le_sub ⟨rfl,rfl,rfl,rfl,rfl,trivial⟩ ⟨rfl,rfl,rfl,trivial⟩ rfl)
                  · refine VS.seq (VS.region ?_);(iterate 2 refine X.lk ?_);refine X.nil (ES.seq ?_)
                    refine VS.cond (fun h23=>?_) (fun h23=>?_)
                    · refine VS.skip ?_;exact ES.jn ih_k3 (decide (x1.Op=6)) (St.le_sub ⟨rfl,rfl,rfl,rfl,rfl,trivial⟩ ⟨rfl,rfl,rfl,trivial⟩ rfl)
                    · refine VS.seq (VS.region ?_);(iterate 2 refine X.lk ?_);refine X.nil (ES.seq ?_)
                      refine VS.cond (fun h24=>?_) (fun h24=>?_)
                      · refine VS.skip ?_;exact ES.jn ih_k3 (decide (x1.Op=7)) (St.le_sub ⟨rfl,rfl,rfl,rfl,rfl,trivial⟩ ⟨rfl,rfl,rfl,trivial⟩ rfl)
                      · refine VS.seq (VS.region ?_);(iterate 2 refine X.lk ?_);refine X.nil (ES.seq ?_)
                        refine VS.cond (fun h25=>?_) (fun h25=>?_)
                        · refine VS.skip ?_;exact ES.jn ih_k3 (decide (x1.Op=8)) (St.le_sub ⟨rfl,rfl,rfl,rfl,rfl,trivial⟩ ⟨rfl,rfl,rfl,trivial⟩ rfl)
                        · refine VS.seq (VS.region ?_);(iterate 2 refine X.lk ?_);refine X.nil (ES.seq ?_)
                          refine VS.cond (fun h26=>?_) (fun h26=>?_)
                          · refine VS.skip ?_;exact ES.jn ih_k3 (decide (x1.Op=9)) (St.le_sub ⟨rfl,rfl,rfl,rfl,rfl,trivial⟩ ⟨rfl,rfl,rfl,trivial⟩ rfl)
                          · refine VS.seq (VS.region ?_);(iterate 2 refine X.lk ?_);refine X.nil (ES.seq ?_)
                            refine VS.cond (fun h27=>?_) (fun h27=>?_)
                            · refine VS.skip ?_;exact ES.jn ih_k3 (decide (x1.Op=10)) (St.le_sub ⟨rfl,rfl,rfl,rfl,rfl,trivial⟩ ⟨rfl,rfl,rfl,trivial⟩ rfl)
                            · refine VS.region ?_;(iterate 2 refine X.lk ?_);refine X.nil ?_;exact ES.jn ih_k3 (decide (x1.Op=11)) (St.le_sub ⟨rfl,rfl,rfl,rfl,rfl,trivial⟩ ⟨rfl,rfl,rfl,trivial⟩ rfl)
      · intro k2 ih_k2;refine VS.seq (VS.region ?_);(iterate 2 refine X.lk ?_);refine X.nil (ES.seq ?_)
        refine VS.cond (fun h28=>?_) (fun h28=>?_)
        · refine VS.skip ?_;exact ES.jn ih_k2 (decide (x1.Op=1)) (St.le_sub ⟨rfl,rfl,rfl,rfl,rfl,trivial⟩ ⟨rfl,rfl,rfl,trivial⟩ rfl)
        · refine VS.region ?_;(iterate 2 refine X.lk ?_);refine X.nil ?_;exact ES.jn ih_k2 (decide (x1.Op=12)) (St.le_sub ⟨rfl,rfl,rfl,rfl,rfl,trivial⟩ ⟨rfl,rfl,rfl,trivial⟩ rfl)
  · intro k1 ih_k1;refine VS.seq (VS.region ?_);(iterate 2 refine X.lk ?_);refine X.nil (ES.seq ?_)
    refine VS.cond (fun h29=>?_) (fun h29=>?_)
    · refine VS.skip ?_;exact ES.jn ih_k1 (decide (x1.Op=0)) (St.le_sub ⟨rfl,rfl,rfl,rfl,rfl,trivial⟩ ⟨rfl,rfl,rfl,trivial⟩ rfl)
    · refine VS.seq (VS.region ?_);(iterate 2 refine X.lk ?_);refine X.nil (ES.seq ?_)
      refine VS.cond (fun h30=>?_) (fun h30=>?_)
      · refine VS.skip ?_;exact ES.jn ih_k1 (decide (x1.Op=13)) (St.le_sub ⟨rfl,rfl,rfl,rfl,rfl,trivial⟩ ⟨rfl,rfl,rfl,trivial⟩ rfl)
      · refine VS.region ?_;(iterate 2 refine X.lk ?_);refine X.nil ?_;exact ES.jn ih_k1 (decide (x1.Op=14)) (St.le_sub ⟨rfl,rfl,rfl,rfl,rfl,trivial⟩ ⟨rfl,rfl,rfl,trivial⟩ rfl)
set_option maxHeartbeats 4000000 in
theorem r05_CheckInstr_ok (p1:AProgram) (i1:Int) (k1:Int):∀r:Int,r05_CheckInstr p1 i1 k1 r→FCalls Tryz.prog 98 [] [.agg ((row_AProgram p1).map .v),.c (.v (.int .i64 i1)),.c (.v (.int .i64 k1))] (.w (.c (.v (.int .i64 r)))) [] []:=by
  refine fnS 138 ?_;unfold r05_CheckInstr;refine VS.seq (VS.region ?_);refine X.box 0 ?_;refine X.lk ?_;refine X.nil (ES.seq (VS.seq (VS.seq (VS.region ?_))));(iterate 3 refine X.lk ?_);refine X.lenT ?_;refine X.call true [] [] (r05_within_ok i1 (p1.Funcs.length:Int)) (fun x1=>?_);(iterate 2 refine X.lk ?_)
  refine X.bif (b:=(!x1)) (fun h1=>?_) (fun h1=>?_)
  · refine X.gN h1 ?_;refine X.gN h1 ?_;refine X.gN h1 ?_;refine X.gN h1 ?_;refine X.gN h1 ?_;refine X.gN h1 ?_;refine X.gN h1 ?_;refine X.gN h1 ?_;refine X.gN h1 ?_;refine X.gN h1 ?_;refine X.pT h1 ?_;refine X.nil (ES.seq ?_);refine VS.condT rfl ?_;refine VS.seq (VS.region ?_);refine X.lk ?_;refine X.nil (ES.seq (VS.ret (ES.thnR ?_)));refine ES.ret ?_;exact Ret.clo [.c (.v (.int .i64 4))] ⟨rfl,trivial⟩ trivial
  · refine X.gY h1 ?_;refine X.lk ?_;refine X.gY h1 ?_;refine X.lk ?_;refine X.gY h1 ?_;refine X.lk ?_;refine X.gY h1 ?_;refine X.lk ?_;refine X.gY h1 ?_;refine X.idxT (fun h2=>?_);refine X.gY h1 ?_;refine X.lk ?_;refine X.gY h1 ?_;refine X.lk ?_;refine X.gY h1 ?_;refine X.lenT ?_;refine X.gY h1 ?_;refine X.call true [] [] (r05_within_ok k1 (((atD p1.Funcs i1).Code).length:Int)) (fun x2=>?_);refine X.gY h1 ?_;refine X.lk ?_;refine X.pF h1 ?_;refine X.nil (ES.seq ?_)
    refine VS.cond (fun h3=>?_) (fun h3=>?_)
    · refine VS.seq (VS.region ?_);refine X.lk ?_;refine X.nil (ES.seq (VS.ret (ES.thnR ?_)));refine ES.ret ?_;exact Ret.clo [.c (.v (.int .i64 4))] ⟨rfl,trivial⟩ trivial
    · refine VS.skip (ES.seq (VS.seq (VS.region ?_)));(iterate 3 refine X.lk ?_);refine X.idxT (fun h4=>?_);refine X.lk ?_;refine X.alloc 1 ?_;refine X.st ?_;refine X.nil (ES.seq (VS.seq (VS.region ?_)));(iterate 3 refine X.lk ?_);refine X.idxT (fun h5=>?_);refine X.lk ?_;refine X.alloc 2 ?_;refine X.st ?_;refine X.nil (ES.seq (VS.seq (VS.seq (VS.region ?_))));(iterate 2 refine X.lk ?_);refine X.call true [] [] (r05_within_ok ((atD ((atD p1.Funcs i1).Code) k1).Op) 25) (fun x3=>?_);refine X.lk ?_;refine X.nil (ES.seq ?_)
      refine VS.cond (fun h6=>?_) (fun h6=>?_)
      · refine VS.seq (VS.region ?_);refine X.lk ?_;refine X.nil (ES.seq (VS.ret (ES.thnR ?_)));refine ES.ret ?_;exact Ret.clo [.c (.v (.int .i64 4))] ⟨rfl,trivial⟩ trivial
      · refine VS.skip (ES.seq (VS.seq (VS.region ?_)));(iterate 2 refine X.lk ?_);refine X.call true [] [] (r05_Operands_ok ((atD ((atD p1.Funcs i1).Code) k1).Op)) (fun x4=>?_);(iterate 9 refine X.lk ?_);refine X.nil (ES.seq (VS.seq ?_));refine VS.weak (s':=(⟨[(3,.w (.c (.ptr 0 0 0))),(7,.w (.c (.ptr 1 0 0))),(8,.w (.c (.ptr 2 0 0))),(9,.w (.c (.v (.bool x4.1)))),(10,.w (.c (.v (.bool x4.2.1)))),(11,.w (.c (.v (.bool x4.2.2.1)))),(12,.w (.c (.v (.bool x4.2.2.2))))],[some (.bx 28 ((row_AProgram p1).map .v)),some (.bx 60 ((row_AFunc (atD p1.Funcs i1)).map .v)),some (.bx 62 ((row_AInstr (atD ((atD p1.Funcs i1).Code) k1)).map .v))]⟩:St)) (St.le_sub ⟨rfl,rfl,rfl,rfl,rfl,rfl,rfl,trivial⟩ ⟨rfl,rfl,rfl,trivial⟩ rfl) ?_
        refine VS.join (fun (x5:Bool)=>(⟨[(3,.w (.c (.ptr 0 0 0))),(7,.w (.c (.ptr 1 0 0))),(8,.w (.c (.ptr 2 0 0))),(86,.w (.c (.v (.bool x5))))],[some (.bx 28 ((row_AProgram p1).map .v)),some (.bx 60 ((row_AFunc (atD p1.Funcs i1)).map .v)),some (.bx 62 ((row_AInstr (atD ((atD p1.Funcs i1).Code) k1)).map .v))]⟩:St)) ?_ ?_
        · rintro x5
          refine VS.cond (fun h7=>?_) (fun h7=>?_)
          · refine VS.seq (VS.region ?_);refine X.lk ?_;refine X.nil (ES.seq (VS.ret (ES.thnR ?_)));refine ES.ret ?_;exact Ret.clo [.c (.v (.int .i64 2))] ⟨rfl,trivial⟩ trivial
          · refine VS.skip (ES.seq (VS.seq (VS.seq (VS.region ?_))));(iterate 3 refine X.lk ?_);refine X.call true [] [] (r05_operands_ok p1 (atD p1.Funcs i1) (atD ((atD p1.Funcs i1).Code) k1)) (fun x6=>?_);refine X.lk ?_;refine X.nil (ES.seq ?_)
            refine VS.cond (fun h8=>?_) (fun h8=>?_)
            · refine VS.seq (VS.region ?_);refine X.lk ?_;refine X.nil (ES.seq (VS.ret (ES.thnR ?_)));refine ES.ret ?_;exact Ret.clo [.c (.v (.int .i64 4))] ⟨rfl,trivial⟩ trivial
            · refine VS.skip (ES.seq ?_)
              refine VS.join (fun (_:Unit)=>(⟨[(7,.w (.c (.ptr 0 0 0))),(8,.w (.c (.ptr 1 0 0)))],[some (.bx 60 ((row_AFunc (atD p1.Funcs i1)).map .v)),some (.bx 62 ((row_AInstr (atD ((atD p1.Funcs i1).Code) k1)).map .v))]⟩:St)) ?_ ?_
              · rintro ⟨⟩;refine VS.seq (VS.seq (VS.region ?_));(iterate 4 refine X.lk ?_)
                refine X.bif (b:=(decide (((atD ((atD p1.Funcs i1).Code) k1).Op)=20))) (fun h9=>?_) (fun h9=>?_)
                · refine X.gY h9 ?_;refine X.lk ?_;refine X.gY h9 ?_;refine X.lk ?_;refine X.gY h9 ?_;refine X.lk ?_;refine X.gY h9 ?_;refine X.lk ?_;refine X.gY h9 ?_;refine X.lenT ?_;refine X.gY h9 ?_;refine X.call true [] [] (r05_within_ok ((atD ((atD p1.Funcs i1).Code) k1).A) (((atD p1.Funcs i1).Code).length:Int)) (fun x7=>?_);refine X.gY h9 ?_;refine X.lk ?_;refine X.pT h9 ?_;refine X.lk ?_
                  refine X.bif (b:=(!x7)) (fun h10=>?_) (fun h10=>?_)
                  · refine X.gN h10 ?_;refine X.gN h10 ?_;refine X.gN h10 ?_;refine X.gN h10 ?_;refine X.gU ?_;refine X.gU ?_;refine X.gU ?_;refine X.gU ?_;refine X.gU ?_;refine X.gU ?_;refine X.gU ?_;refine X.gN h10 ?_;refine X.pT h10 ?_;refine X.nil (ES.seq ?_);refine VS.condT rfl ?_;refine VS.seq (VS.region ?_);refine X.lk ?_;refine X.nil (ES.seq (VS.ret (ES.thnR ?_)));refine ES.ret ?_;exact Ret.clo [.c (.v (.int .i64 6))] ⟨rfl,trivial⟩ trivial
                  · refine X.gY h10 ?_;refine X.lk ?_;refine X.gY h10 ?_;refine X.lk ?_;refine X.gY h10 ?_;refine X.lk ?_;refine X.gY h10 ?_;refine X.lk ?_
                    refine X.bif (b:=(decide (((atD ((atD p1.Funcs i1).Code) k1).Op)=21))) (fun h11=>?_) (fun h11=>?_)
                    · refine X.gY h11 ?_;refine X.lk ?_;refine X.gY h11 ?_;refine X.lk ?_;refine X.gY h11 ?_;refine X.lk ?_;refine X.gY h11 ?_;refine X.lk ?_;refine X.gY h11 ?_;refine X.lenT ?_;refine X.gY h11 ?_;refine X.call true [] [] (r05_within_ok ((atD ((atD p1.Funcs i1).Code) k1).B) (((atD p1.Funcs i1).Code).length:Int)) (fun x8=>?_);refine X.gY h11 ?_;refine X.lk ?_;refine X.gY h10 ?_;refine X.pT h11 ?_;refine X.pF h10 ?_;refine X.nil (ES.seq ?_)
                      refine VS.cond (fun h12=>?_) (fun h12=>?_)
                      · refine VS.seq (VS.region ?_);refine X.lk ?_;refine X.nil (ES.seq (VS.ret (ES.thnR ?_)));refine ES.ret ?_;exact Ret.clo [.c (.v (.int .i64 6))] ⟨rfl,trivial⟩ trivial
                      · refine VS.skip (ES.seq (VS.seq (VS.region ?_)));refine X.lk ?_;refine X.nil (ES.seq (VS.ret ?_));refine ES.ret ?_;exact Ret.clo [.c (.v (.int .i64 0))] ⟨rfl,trivial⟩ trivial
                    · refine X.gN h11 ?_;refine X.gN h11 ?_;refine X.gN h11 ?_;refine X.gN h11 ?_;refine X.gN h11 ?_;refine X.gN h11 ?_;refine X.gN h11 ?_;refine X.gY h10 ?_;refine X.pF h11 ?_;refine X.pF h10 ?_;refine X.nil (ES.seq ?_);refine VS.condF rfl ?_;refine VS.skip (ES.seq (VS.seq (VS.region ?_)));refine X.lk ?_;refine X.nil (ES.seq (VS.ret ?_));refine ES.ret ?_;exact Ret.clo [.c (.v (.int .i64 0))] ⟨rfl,trivial⟩ trivial
                · refine X.gN h9 ?_;refine X.gN h9 ?_;refine X.gN h9 ?_;refine X.gN h9 ?_;refine X.gN h9 ?_;refine X.gN h9 ?_;refine X.gN h9 ?_;refine X.pF h9 ?_;refine X.lk ?_;refine X.gY rfl ?_;refine X.lk ?_;refine X.gY rfl ?_;refine X.lk ?_;refine X.gY rfl ?_;refine X.lk ?_;refine X.gY rfl ?_;refine X.lk ?_
                  refine X.bif (b:=(decide (((atD ((atD p1.Funcs i1).Code) k1).Op)=21))) (fun h13=>?_) (fun h13=>?_)
                  · refine X.gY h13 ?_;refine X.lk ?_;refine X.gY h13 ?_;refine X.lk ?_;refine X.gY h13 ?_;refine X.lk ?_;refine X.gY h13 ?_;refine X.lk ?_;refine X.gY h13 ?_;refine X.lenT ?_;refine X.gY h13 ?_;refine X.call true [] [] (r05_within_ok ((atD ((atD p1.Funcs i1).Code) k1).B) (((atD p1.Funcs i1).Code).length:Int)) (fun x9=>?_);refine X.gY h13 ?_;refine X.lk ?_;refine X.gY rfl ?_;refine X.pT h13 ?_;refine X.pF rfl ?_;refine X.nil (ES.seq ?_)
                    refine VS.cond (fun h14=>?_) (fun h14=>?_)
                    · refine VS.seq (VS.region ?_);refine X.lk ?_;refine X.nil (ES.seq (VS.ret (ES.thnR ?_)));refine ES.ret ?_;exact Ret.clo [.c (.v (.int .i64 6))] ⟨rfl,trivial⟩ trivial
                    · refine VS.skip (ES.seq (VS.seq (VS.region ?_)));refine X.lk ?_;refine X.nil (ES.seq (VS.ret ?_));refine ES.ret ?_;exact Ret.clo [.c (.v (.int .i64 0))] ⟨rfl,trivial⟩ trivial
                  · refine X.gN h13 ?_;refine X.gN h13 ?_;refine X.gN h13 ?_;refine X.gN h13 ?_;refine X.gN h13 ?_;refine X.gN h13 ?_;refine X.gN h13 ?_;refine X.gY rfl ?_;refine X.pF h13 ?_;refine X.pF rfl ?_;refine X.nil (ES.seq ?_);refine VS.condF rfl ?_;refine VS.skip (ES.seq (VS.seq (VS.region ?_)));refine X.lk ?_;refine X.nil (ES.seq (VS.ret ?_));refine ES.ret ?_;exact Ret.clo [.c (.v (.int .i64 0))] ⟨rfl,trivial⟩ trivial
              · intro k3 ih_k3;refine VS.seq (VS.drawn ?_);(iterate 4 refine X.lk ?_)
                refine X.bif (b:=(decide (((atD ((atD p1.Funcs i1).Code) k1).Op)=17))) (fun h15=>?_) (fun h15=>?_)
                · refine X.gY h15 ?_;refine X.lk ?_;refine X.gY h15 ?_;refine X.lk ?_;refine X.gY h15 ?_;refine X.lk ?_;refine X.gY h15 ?_;refine X.lk ?_;refine X.gY h15 ?_;refine X.idxT (fun h16=>?_);refine X.gY h15 ?_;refine X.lk ?_;refine X.gY h15 ?_;refine X.lk ?_;refine X.gY h15 ?_;refine X.lk ?_;refine X.gY h15 ?_;refine X.lk ?_;refine X.gY h15 ?_;refine X.lk ?_;refine X.gY h15 ?_;refine X.lk ?_;refine X.gY h15 ?_;refine X.idxT (fun h17=>?_);refine X.gY h15 ?_;refine X.lk ?_;refine X.gY h15 ?_;refine X.lk ?_;refine X.gY h15 ?_;refine X.lk ?_;refine X.pT h15 ?_;refine X.nilD ?_ (by kernel_rfl);refine ES.seq ?_
                  refine VS.cond (fun h18=>?_) (fun h18=>?_)
                  · refine VS.seq (VS.region ?_);refine X.lk ?_;refine X.nil (ES.seq (VS.ret (ES.thnR ?_)));refine ES.ret ?_;exact Ret.clo [.c (.v (.int .i64 5))] ⟨rfl,trivial⟩ trivial
                  · refine VS.skip ?_;exact ES.jn ih_k3 () ((St.le_drop _ 0 (Nat.le_of_ble_eq_true rfl)).trans ((St.le_mvB _ 1 0 rfl rfl rfl rfl).trans ((St.le_mvB _ 2 1 rfl rfl rfl rfl).trans (St.le_sub ⟨rfl,rfl,trivial⟩ ⟨rfl,rfl,trivial⟩ rfl))))
                · refine X.gN h15 ?_;refine X.gN h15 ?_;refine X.gN h15 ?_;refine X.gN h15 ?_;refine X.gN h15 ?_;refine X.gN h15 ?_;refine X.gN h15 ?_;refine X.gN h15 ?_;refine X.gN h15 ?_;refine X.gN h15 ?_;refine X.gN h15 ?_;refine X.gN h15 ?_;refine X.gN h15 ?_;refine X.gN h15 ?_;refine X.gN h15 ?_;refine X.pF h15 ?_;refine X.nilD ?_ (by kernel_rfl);refine ES.seq ?_;refine VS.condF rfl ?_;refine VS.skip ?_;exact ES.jn ih_k3 () ((St.le_drop _ 0 (Nat.le_of_ble_eq_true rfl)).trans ((St.le_mvB _ 1 0 rfl rfl rfl rfl).trans ((St.le_mvB _ 2 1 rfl rfl rfl rfl).trans (St.le_sub ⟨rfl,rfl,trivial⟩ ⟨rfl,rfl,trivial⟩ rfl))))
        · intro k2 ih_k2;refine VS.region ?_;(iterate 3 refine X.lk ?_)
          refine X.bif (b:=(!x4.1)) (fun h19=>?_) (fun h19=>?_)
          · refine X.gY h19 ?_;refine X.lk ?_;refine X.gY h19 ?_;refine X.lk ?_;refine X.gY h19 ?_;refine X.lk ?_;refine X.pT h19 ?_;refine X.lk ?_
            refine X.bif (b:=(!decide (((atD ((atD p1.Funcs i1).Code) k1).A)=0))) (fun h20=>?_) (fun h20=>?_)
            · refine X.gN h20 ?_;refine X.gN h20 ?_;refine X.gN h20 ?_;refine X.gU ?_;refine X.gU ?_;refine X.gU ?_;refine X.gN h20 ?_;refine X.pT h20 ?_;refine X.lk ?_;refine X.gN rfl ?_;refine X.gN rfl ?_;refine X.gN rfl ?_;refine X.gU ?_;refine X.gU ?_;refine X.gU ?_;refine X.gN rfl ?_;refine X.pT rfl ?_;refine X.lk ?_;refine X.gN rfl ?_;refine X.gN rfl ?_;refine X.gN rfl ?_;refine X.gU ?_;refine X.gU ?_;refine X.gU ?_;refine X.gN rfl ?_;refine X.pT rfl ?_;refine X.nil ?_;exact ES.jn ih_k2 true (St.le_sub ⟨rfl,rfl,rfl,rfl,trivial⟩ ⟨rfl,rfl,rfl,trivial⟩ rfl)
            · refine X.gY h20 ?_;refine X.lk ?_;refine X.gY h20 ?_;refine X.lk ?_;refine X.gY h20 ?_;refine X.lk ?_
              refine X.bif (b:=(!x4.2.1)) (fun h21=>?_) (fun h21=>?_)
              · refine X.gY h21 ?_;refine X.lk ?_;refine X.gY h21 ?_;refine X.lk ?_;refine X.gY h21 ?_;refine X.lk ?_;refine X.gY h20 ?_;refine X.pT h21 ?_;refine X.pF h20 ?_;refine X.lk ?_
                refine X.bif (b:=(!decide (((atD ((atD p1.Funcs i1).Code) k1).B)=0))) (fun h22=>?_) (fun h22=>?_)
                · refine X.gN h22 ?_;refine X.gN h22 ?_;refine X.gN h22 ?_;refine X.gU ?_;refine X.gU ?_;refine X.gU ?_;refine X.gN h22 ?_;refine X.pT h22 ?_;refine X.lk ?_;refine X.gN rfl ?_;refine X.gN rfl ?_;refine X.gN rfl ?_;refine X.gU ?_;refine X.gU ?_;refine X.gU ?_;refine X.gN rfl ?_;refine X.pT rfl ?_;refine X.nil ?_;exact ES.jn ih_k2 true (St.le_sub ⟨rfl,rfl,rfl,rfl,trivial⟩ ⟨rfl,rfl,rfl,trivial⟩ rfl)
                · refine X.gY h22 ?_;refine X.lk ?_;refine X.gY h22 ?_;refine X.lk ?_;refine X.gY h22 ?_;refine X.lk ?_
                  refine X.bif (b:=(!x4.2.2.1)) (fun h23=>?_) (fun h23=>?_)
                  · refine X.gY h23 ?_;refine X.lk ?_;refine X.gY h23 ?_;refine X.lk ?_;refine X.gY h23 ?_;refine X.lk ?_;refine X.gY h22 ?_;refine X.pT h23 ?_;refine X.pF h22 ?_;refine X.lk ?_
                    refine X.bif (b:=(!decide (((atD ((atD p1.Funcs i1).Code) k1).C)=0))) (fun h24=>?_) (fun h24=>?_)
                    · refine X.gN h24 ?_;refine X.gN h24 ?_;refine X.gN h24 ?_;refine X.gU ?_;refine X.gU ?_;refine X.gU ?_;refine X.gN h24 ?_;refine X.pT h24 ?_;refine X.nil ?_;exact ES.jn ih_k2 true (St.le_sub ⟨rfl,rfl,rfl,rfl,trivial⟩ ⟨rfl,rfl,rfl,trivial⟩ rfl)
                    · refine X.gY h24 ?_;refine X.lk ?_;refine X.gY h24 ?_;refine X.lk ?_;refine X.gY h24 ?_;refine X.lk ?_
                      refine X.bif (b:=(!x4.2.2.2)) (fun h25=>?_) (fun h25=>?_)
                      · refine X.gY h25 ?_;refine X.lk ?_;refine X.gY h25 ?_;refine X.lk ?_;refine X.gY h25 ?_;refine X.lk ?_;refine X.gY h24 ?_;refine X.pT h25 ?_;refine X.pF h24 ?_;refine X.nil ?_;exact ES.jn ih_k2 (!decide (((atD ((atD p1.Funcs i1).Code) k1).Imm)=0)) (St.le_sub ⟨rfl,rfl,rfl,rfl,trivial⟩ ⟨rfl,rfl,rfl,trivial⟩ rfl)
                      · refine X.gN h25 ?_;refine X.gN h25 ?_;refine X.gN h25 ?_;refine X.gY h24 ?_;refine X.pF h25 ?_;refine X.pF h24 ?_;refine X.nil ?_;exact ES.jn ih_k2 false (St.le_sub ⟨rfl,rfl,rfl,rfl,trivial⟩ ⟨rfl,rfl,rfl,trivial⟩ rfl)
                  · refine X.gN h23 ?_;refine X.gN h23 ?_;refine X.gN h23 ?_;refine X.gY h22 ?_;refine X.pF h23 ?_;refine X.pF h22 ?_;refine X.lk ?_;refine X.gY rfl ?_;refine X.lk ?_;refine X.gY rfl ?_;refine X.lk ?_;refine X.gY rfl ?_;refine X.lk ?_
                    refine X.bif (b:=(!x4.2.2.2)) (fun h26=>?_) (fun h26=>?_)
                    · refine X.gY h26 ?_;refine X.lk ?_;refine X.gY h26 ?_;refine X.lk ?_;refine X.gY h26 ?_;refine X.lk ?_;refine X.gY rfl ?_;refine X.pT h26 ?_;refine X.pF rfl ?_;refine X.nil ?_;exact ES.jn ih_k2 (!decide (((atD ((atD p1.Funcs i1).Code) k1).Imm)=0)) (St.le_sub ⟨rfl,rfl,rfl,rfl,trivial⟩ ⟨rfl,rfl,rfl,trivial⟩ rfl)
                    · refine X.gN h26 ?_;refine X.gN h26 ?_;refine X.gN h26 ?_;refine X.gY rfl ?_;refine X.pF h26 ?_;refine X.pF rfl ?_;refine X.nil ?_;exact ES.jn ih_k2 false (St.le_sub ⟨rfl,rfl,rfl,rfl,trivial⟩ ⟨rfl,rfl,rfl,trivial⟩ rfl)
              · refine X.gN h21 ?_;refine X.gN h21 ?_;refine X.gN h21 ?_;refine X.gY h20 ?_;refine X.pF h21 ?_;refine X.pF h20 ?_;refine X.lk ?_;refine X.gY rfl ?_;refine X.lk ?_;refine X.gY rfl ?_;refine X.lk ?_;refine X.gY rfl ?_;refine X.lk ?_
                refine X.bif (b:=(!x4.2.2.1)) (fun h27=>?_) (fun h27=>?_)
                · refine X.gY h27 ?_;refine X.lk ?_;refine X.gY h27 ?_;refine X.lk ?_;refine X.gY h27 ?_;refine X.lk ?_;refine X.gY rfl ?_;refine X.pT h27 ?_;refine X.pF rfl ?_;refine X.lk ?_
                  refine X.bif (b:=(!decide (((atD ((atD p1.Funcs i1).Code) k1).C)=0))) (fun h28=>?_) (fun h28=>?_)
                  · refine X.gN h28 ?_;refine X.gN h28 ?_;refine X.gN h28 ?_;refine X.gU ?_;refine X.gU ?_;refine X.gU ?_;refine X.gN h28 ?_;refine X.pT h28 ?_;refine X.nil ?_;exact ES.jn ih_k2 true (St.le_sub ⟨rfl,rfl,rfl,rfl,trivial⟩ ⟨rfl,rfl,rfl,trivial⟩ rfl)
                  · refine X.gY h28 ?_;refine X.lk ?_;refine X.gY h28 ?_;refine X.lk ?_;refine X.gY h28 ?_;refine X.lk ?_
                    refine X.bif (b:=(!x4.2.2.2)) (fun h29=>?_) (fun h29=>?_)
                    · refine X.gY h29 ?_;refine X.lk ?_;refine X.gY h29 ?_;refine X.lk ?_;refine X.gY h29 ?_;refine X.lk ?_;refine X.gY h28 ?_;refine X.pT h29 ?_;refine X.pF h28 ?_;refine X.nil ?_;exact ES.jn ih_k2 (!decide (((atD ((atD p1.Funcs i1).Code) k1).Imm)=0)) (St.le_sub ⟨rfl,rfl,rfl,rfl,trivial⟩ ⟨rfl,rfl,rfl,trivial⟩ rfl)
                    · refine X.gN h29 ?_;refine X.gN h29 ?_;refine X.gN h29 ?_;refine X.gY h28 ?_;refine X.pF h29 ?_;refine X.pF h28 ?_;refine X.nil ?_;exact ES.jn ih_k2 false (St.le_sub ⟨rfl,rfl,rfl,rfl,trivial⟩ ⟨rfl,rfl,rfl,trivial⟩ rfl)
                · refine X.gN h27 ?_;refine X.gN h27 ?_;refine X.gN h27 ?_;refine X.gY rfl ?_;refine X.pF h27 ?_;refine X.pF rfl ?_;refine X.lk ?_;refine X.gY rfl ?_;refine X.lk ?_;refine X.gY rfl ?_;refine X.lk ?_;refine X.gY rfl ?_;refine X.lk ?_
                  refine X.bif (b:=(!x4.2.2.2)) (fun h30=>?_) (fun h30=>?_)
                  · refine X.gY h30 ?_;refine X.lk ?_;refine X.gY h30 ?_;refine X.lk ?_;refine X.gY h30 ?_;refine X.lk ?_;refine X.gY rfl ?_;refine X.pT h30 ?_;refine X.pF rfl ?_;refine X.nil ?_;exact ES.jn ih_k2 (!decide (((atD ((atD p1.Funcs i1).Code) k1).Imm)=0)) (St.le_sub ⟨rfl,rfl,rfl,rfl,trivial⟩ ⟨rfl,rfl,rfl,trivial⟩ rfl)
                  · refine X.gN h30 ?_;refine X.gN h30 ?_;refine X.gN h30 ?_;refine X.gY rfl ?_;refine X.pF h30 ?_;refine X.pF rfl ?_;refine X.nil ?_;exact ES.jn ih_k2 false (St.le_sub ⟨rfl,rfl,rfl,rfl,trivial⟩ ⟨rfl,rfl,rfl,trivial⟩ rfl)
          · refine X.gN h19 ?_;refine X.gN h19 ?_;refine X.gN h19 ?_;refine X.pF h19 ?_;refine X.lk ?_;refine X.gY rfl ?_;refine X.lk ?_;refine X.gY rfl ?_;refine X.lk ?_;refine X.gY rfl ?_;refine X.lk ?_
            refine X.bif (b:=(!x4.2.1)) (fun h31=>?_) (fun h31=>?_)
            · refine X.gY h31 ?_;refine X.lk ?_;refine X.gY h31 ?_;refine X.lk ?_;refine X.gY h31 ?_;refine X.lk ?_;refine X.gY rfl ?_;refine X.pT h31 ?_;refine X.pF rfl ?_;refine X.lk ?_
              refine X.bif (b:=(!decide (((atD ((atD p1.Funcs i1).Code) k1).B)=0))) (fun h32=>?_) (fun h32=>?_)
              · refine X.gN h32 ?_;refine X.gN h32 ?_;refine X.gN h32 ?_;refine X.gU ?_;refine X.gU ?_;refine X.gU ?_;refine X.gN h32 ?_;refine X.pT h32 ?_;refine X.lk ?_;refine X.gN rfl ?_;refine X.gN rfl ?_;refine X.gN rfl ?_;refine X.gU ?_;refine X.gU ?_;refine X.gU ?_;refine X.gN rfl ?_;refine X.pT rfl ?_;refine X.nil ?_;exact ES.jn ih_k2 true (St.le_sub ⟨rfl,rfl,rfl,rfl,trivial⟩ ⟨rfl,rfl,rfl,trivial⟩ rfl)
              · refine X.gY h32 ?_;refine X.lk ?_;refine X.gY h32 ?_;refine X.lk ?_;refine X.gY h32 ?_;refine X.lk ?_
                refine X.bif (b:=(!x4.2.2.1)) (fun h33=>?_) (fun h33=>?_)
                · refine X.gY h33 ?_;refine X.lk ?_;refine X.gY h33 ?_;refine X.lk ?_;refine X.gY h33 ?_;refine X.lk ?_;refine X.gY h32 ?_;refine X.pT h33 ?_;refine X.pF h32 ?_;refine X.lk ?_
                  refine X.bif (b:=(!decide (((atD ((atD p1.Funcs i1).Code) k1).C)=0))) (fun h34=>?_) (fun h34=>?_)
                  · refine X.gN h34 ?_;refine X.gN h34 ?_;refine X.gN h34 ?_;refine X.gU ?_;refine X.gU ?_;refine X.gU ?_;refine X.gN h34 ?_;refine X.pT h34 ?_;refine X.nil ?_;exact ES.jn ih_k2 true (St.le_sub ⟨rfl,rfl,rfl,rfl,trivial⟩ ⟨rfl,rfl,rfl,trivial⟩ rfl)
                  · refine X.gY h34 ?_;refine X.lk ?_;refine X.gY h34 ?_;refine X.lk ?_;refine X.gY h34 ?_;refine X.lk ?_
                    refine X.bif (b:=(!x4.2.2.2)) (fun h35=>?_) (fun h35=>?_)
                    · refine X.gY h35 ?_;refine X.lk ?_;refine X.gY h35 ?_;refine X.lk ?_;refine X.gY h35 ?_;refine X.lk ?_;refine X.gY h34 ?_;refine X.pT h35 ?_;refine X.pF h34 ?_;refine X.nil ?_;exact ES.jn ih_k2 (!decide (((atD ((atD p1.Funcs i1).Code) k1).Imm)=0)) (St.le_sub ⟨rfl,rfl,rfl,rfl,trivial⟩ ⟨rfl,rfl,rfl,trivial⟩ rfl)
                    · refine X.gN h35 ?_;refine X.gN h35 ?_;refine X.gN h35 ?_;refine X.gY h34 ?_;refine X.pF h35 ?_;refine X.pF h34 ?_;refine X.nil ?_;exact ES.jn ih_k2 false (St.le_sub ⟨rfl,rfl,rfl,rfl,trivial⟩ ⟨rfl,rfl,rfl,trivial⟩ rfl)
                · refine X.gN h33 ?_;refine X.gN h33 ?_;refine X.gN h33 ?_;refine X.gY h32 ?_;refine X.pF h33 ?_;refine X.pF h32 ?_;refine X.lk ?_;refine X.gY rfl ?_;refine X.lk ?_;refine X.gY rfl ?_;refine X.lk ?_;refine X.gY rfl ?_;refine X.lk ?_
                  refine X.bif (b:=(!x4.2.2.2)) (fun h36=>?_) (fun h36=>?_)
                  · refine X.gY h36 ?_;refine X.lk ?_;refine X.gY h36 ?_;refine X.lk ?_;refine X.gY h36 ?_;refine X.lk ?_;refine X.gY rfl ?_;refine X.pT h36 ?_;refine X.pF rfl ?_;refine X.nil ?_;exact ES.jn ih_k2 (!decide (((atD ((atD p1.Funcs i1).Code) k1).Imm)=0)) (St.le_sub ⟨rfl,rfl,rfl,rfl,trivial⟩ ⟨rfl,rfl,rfl,trivial⟩ rfl)
                  · refine X.gN h36 ?_;refine X.gN h36 ?_;refine X.gN h36 ?_;refine X.gY rfl ?_;refine X.pF h36 ?_;refine X.pF rfl ?_;refine X.nil ?_;exact ES.jn ih_k2 false (St.le_sub ⟨rfl,rfl,rfl,rfl,trivial⟩ ⟨rfl,rfl,rfl,trivial⟩ rfl)
            · refine X.gN h31 ?_;refine X.gN h31 ?_;refine X.gN h31 ?_;refine X.gY rfl ?_;refine X.pF h31 ?_;refine X.pF rfl ?_;refine X.lk ?_;refine X.gY rfl ?_;refine X.lk ?_;refine X.gY rfl ?_;refine X.lk ?_;refine X.gY rfl ?_;refine X.lk ?_
              refine X.bif (b:=(!x4.2.2.1)) (fun h37=>?_) (fun h37=>?_)
              · refine X.gY h37 ?_;refine X.lk ?_;refine X.gY h37 ?_;refine X.lk ?_;refine X.gY h37 ?_;refine X.lk ?_;refine X.gY rfl ?_;refine X.pT h37 ?_;refine X.pF rfl ?_;refine X.lk ?_
                refine X.bif (b:=(!decide (((atD ((atD p1.Funcs i1).Code) k1).C)=0))) (fun h38=>?_) (fun h38=>?_)
                · refine X.gN h38 ?_;refine X.gN h38 ?_;refine X.gN h38 ?_;refine X.gU ?_;refine X.gU ?_;refine X.gU ?_;refine X.gN h38 ?_;refine X.pT h38 ?_;refine X.nil ?_;exact ES.jn ih_k2 true (St.le_sub ⟨rfl,rfl,rfl,rfl,trivial⟩ ⟨rfl,rfl,rfl,trivial⟩ rfl)
                · refine X.gY h38 ?_;refine X.lk ?_;refine X.gY h38 ?_;refine X.lk ?_;refine X.gY h38 ?_;refine X.lk ?_
                  refine X.bif (b:=(!x4.2.2.2)) (fun h39=>?_) (fun h39=>?_)
                  · refine X.gY h39 ?_;refine X.lk ?_;refine X.gY h39 ?_;refine X.lk ?_;refine X.gY h39 ?_;refine X.lk ?_;refine X.gY h38 ?_;refine X.pT h39 ?_;refine X.pF h38 ?_;refine X.nil ?_;exact ES.jn ih_k2 (!decide (((atD ((atD p1.Funcs i1).Code) k1).Imm)=0)) (St.le_sub ⟨rfl,rfl,rfl,rfl,trivial⟩ ⟨rfl,rfl,rfl,trivial⟩ rfl)
                  · refine X.gN h39 ?_;refine X.gN h39 ?_;refine X.gN h39 ?_;refine X.gY h38 ?_;refine X.pF h39 ?_;refine X.pF h38 ?_;refine X.nil ?_;exact ES.jn ih_k2 false (St.le_sub ⟨rfl,rfl,rfl,rfl,trivial⟩ ⟨rfl,rfl,rfl,trivial⟩ rfl)
              · refine X.gN h37 ?_;refine X.gN h37 ?_;refine X.gN h37 ?_;refine X.gY rfl ?_;refine X.pF h37 ?_;refine X.pF rfl ?_;refine X.lk ?_;refine X.gY rfl ?_;refine X.lk ?_;refine X.gY rfl ?_;refine X.lk ?_;refine X.gY rfl ?_;refine X.lk ?_
                refine X.bif (b:=(!x4.2.2.2)) (fun h40=>?_) (fun h40=>?_)
                · refine X.gY h40 ?_;refine X.lk ?_;refine X.gY h40 ?_;refine X.lk ?_;refine X.gY h40 ?_;refine X.lk ?_;refine X.gY rfl ?_;refine X.pT h40 ?_;refine X.pF rfl ?_;refine X.nil ?_;exact ES.jn ih_k2 (!decide (((atD ((atD p1.Funcs i1).Code) k1).Imm)=0)) (St.le_sub ⟨rfl,rfl,rfl,rfl,trivial⟩ ⟨rfl,rfl,rfl,trivial⟩ rfl)
                · refine X.gN h40 ?_;refine X.gN h40 ?_;refine X.gN h40 ?_;refine X.gY rfl ?_;refine X.pF h40 ?_;refine X.pF rfl ?_;refine X.nil ?_;exact ES.jn ih_k2 false (St.le_sub ⟨rfl,rfl,rfl,rfl,trivial⟩ ⟨rfl,rfl,rfl,trivial⟩ rfl)
set_option maxHeartbeats 4000000 in
theorem r05_Terminator_ok (op1:Int):∀r:Bool,r05_Terminator op1 r→FCalls Tryz.prog 99 [] [.c (.v (.int .i64 op1))] (.w (.c (.v (.bool r)))) [] []:=by
  refine fnS 13 ?_;unfold r05_Terminator;refine VS.seq (VS.region ?_);refine X.lk ?_;refine X.nil (ES.seq (VS.seq (VS.region ?_)));(iterate 3 refine X.lk ?_)
  refine X.bif (b:=(decide (op1=20))) (fun h1=>?_) (fun h1=>?_)
  · refine X.gN h1 ?_;refine X.gN h1 ?_;refine X.pT h1 ?_;refine X.lk ?_;refine X.gN rfl ?_;refine X.gN rfl ?_;refine X.pT rfl ?_;refine X.lk ?_;refine X.nil (ES.seq (VS.ret ?_));refine ES.ret ?_;exact Ret.clo [.c (.v (.bool true))] ⟨rfl,trivial⟩ trivial
  · refine X.gY h1 ?_;refine X.lk ?_;refine X.gY h1 ?_;refine X.lk ?_;refine X.pF h1 ?_;refine X.lk ?_
    refine X.bif (b:=(decide (op1=23))) (fun h2=>?_) (fun h2=>?_)
    · refine X.gN h2 ?_;refine X.gN h2 ?_;refine X.pT h2 ?_;refine X.lk ?_;refine X.nil (ES.seq (VS.ret ?_));refine ES.ret ?_;exact Ret.clo [.c (.v (.bool true))] ⟨rfl,trivial⟩ trivial
    · refine X.gY h2 ?_;refine X.lk ?_;refine X.gY h2 ?_;refine X.lk ?_;refine X.pF h2 ?_;refine X.lk ?_;refine X.nil (ES.seq (VS.ret ?_));refine ES.ret ?_;exact Ret.clo [.c (.v (.bool (decide (op1=24))))] ⟨rfl,trivial⟩ trivial
set_option maxHeartbeats 4000000 in
theorem r05_CheckFunc_ok (p1:AProgram) (i1:Int):∀r:Int,r05_CheckFunc p1 i1 r→FCalls Tryz.prog 69 [] [.agg ((row_AProgram p1).map .v),.c (.v (.int .i64 i1))] (.w (.c (.v (.int .i64 r)))) [] []:=by
  refine fnS 69 ?_;unfold r05_CheckFunc;refine VS.seq (VS.region ?_);refine X.box 0 ?_;refine X.lk ?_;refine X.nil (ES.seq (VS.seq (VS.seq (VS.region ?_))));(iterate 3 refine X.lk ?_);refine X.lenT ?_;refine X.call true [] [] (r05_within_ok i1 (p1.Funcs.length:Int)) (fun x1=>?_);refine X.lk ?_;refine X.nil (ES.seq ?_)
  refine VS.cond (fun h1=>?_) (fun h1=>?_)
  · refine VS.seq (VS.region ?_);refine X.lk ?_;refine X.nil (ES.seq (VS.ret (ES.thnR ?_)));refine ES.ret ?_;exact Ret.clo [.c (.v (.int .i64 4))] ⟨rfl,trivial⟩ trivial
  · refine VS.skip (ES.seq (VS.seq (VS.region ?_)));(iterate 3 refine X.lk ?_);refine X.idxT (fun h2=>?_);refine X.lk ?_;refine X.alloc 1 ?_;refine X.st ?_;refine X.nil (ES.seq (VS.seq (VS.seq (VS.region ?_))));(iterate 2 refine X.lk ?_);refine X.lenT ?_;refine X.lk ?_;refine X.nil (ES.seq ?_)
    refine VS.cond (fun h3=>?_) (fun h3=>?_)
    · refine VS.seq (VS.region ?_);refine X.lk ?_;refine X.nil (ES.seq (VS.ret (ES.thnR ?_)));refine ES.ret ?_;exact Ret.clo [.c (.v (.int .i64 3))] ⟨rfl,trivial⟩ trivial
    · refine VS.skip (ES.seq (VS.seq (VS.seq (VS.region ?_))));(iterate 2 refine X.lk ?_);refine X.call true [] [] (r03_Slots_ok ((atD p1.Funcs i1).Slots)) (fun x2=>?_);refine X.lk ?_;refine X.nil (ES.seq (VS.seq (VS.region ?_)));(iterate 2 refine X.lk ?_);refine X.nil (ES.seq ?_)
      refine VS.cond (fun h4=>?_) (fun h4=>?_)
      · refine VS.seq (VS.region ?_);(iterate 2 refine X.lk ?_);refine X.nil (ES.seq (VS.ret (ES.thnR ?_)));refine ES.ret ?_;exact Ret.clo [.c (.v (.int .i64 x2))] ⟨rfl,trivial⟩ trivial
      · refine VS.skip (ES.seq (VS.seq (VS.seq (VS.region ?_))));(iterate 4 refine X.lk ?_)
        refine X.bif (b:=(decide (((atD p1.Funcs i1).Params)<0))) (fun h5=>?_) (fun h5=>?_)
        · refine X.gN h5 ?_;refine X.gN h5 ?_;refine X.gN h5 ?_;refine X.pT h5 ?_;refine X.nil (ES.seq ?_);refine VS.condT rfl ?_;refine VS.seq (VS.region ?_);refine X.lk ?_;refine X.nil (ES.seq (VS.ret (ES.thnR ?_)));refine ES.ret ?_;exact Ret.clo [.c (.v (.int .i64 4))] ⟨rfl,trivial⟩ trivial
        · refine X.gY h5 ?_;refine X.lk ?_;refine X.gY h5 ?_;refine X.lk ?_;refine X.gY h5 ?_;refine X.lk ?_;refine X.pF h5 ?_;refine X.nil (ES.seq ?_)
          refine VS.cond (fun h6=>?_) (fun h6=>?_)
          · refine VS.seq (VS.region ?_);refine X.lk ?_;refine X.nil (ES.seq (VS.ret (ES.thnR ?_)));refine ES.ret ?_;exact Ret.clo [.c (.v (.int .i64 4))] ⟨rfl,trivial⟩ trivial
          · refine VS.skip (ES.seq (VS.seq (VS.seq (VS.region ?_))));refine X.lk ?_;refine X.nil (ES.seq (VS.block ?_));refine VS.loop (fun (k1:Int)=>(⟨[(1,.w (.c (.v (.int .i64 i1)))),(2,.w (.c (.ptr 0 0 0))),(5,.w (.c (.ptr 1 0 0))),(7,.w (.c (.v (.int .i64 k1))))],[some (.bx 28 ((row_AProgram p1).map .v)),some (.bx 60 ((row_AFunc (atD p1.Funcs i1)).map .v))]⟩:St)) (j0:=0) (St.le_sub ⟨rfl,rfl,rfl,rfl,trivial⟩ ⟨rfl,rfl,trivial⟩ rfl) ?_;rintro n1 again1 ih_again1 k1;refine VS.seq (VS.seq (VS.region ?_));(iterate 3 refine X.lk ?_);refine X.lenT ?_;refine X.lk ?_;refine X.nil (ES.seq ?_)
            refine VS.cond (fun h7=>?_) (fun h7=>?_)
            · refine VS.skip (ES.seq (VS.seq (VS.block (VS.seq (VS.region ?_)))));(iterate 3 refine X.lk ?_);refine X.call true [] [] (r05_CheckInstr_ok p1 i1 k1) (fun x3=>?_);refine X.lk ?_;refine X.nil (ES.seq (VS.seq (VS.region ?_)));(iterate 2 refine X.lk ?_);refine X.nil (ES.seq ?_)
              refine VS.cond (fun h8=>?_) (fun h8=>?_)
              · refine VS.seq (VS.region ?_);(iterate 2 refine X.lk ?_);refine X.nil (ES.seq (VS.ret (ES.blkR (ES.thnR (ES.thnR (ES.blkR (ES.thnR ?_)))))));refine ES.ret ?_;exact Ret.clo [.c (.v (.int .i64 x3))] ⟨rfl,trivial⟩ trivial
              · refine VS.skip (ES.blkN (ES.seq (VS.region ?_)));refine X.lk ?_;refine X.ck fun h9=>?_;refine X.lk ?_;refine X.nil ?_;exact ES.go ih_again1 (k1+1) (St.le_sub ⟨rfl,rfl,rfl,rfl,trivial⟩ ⟨rfl,rfl,trivial⟩ rfl)
            · refine VS.exit (ES.thnE (ES.thnE (ES.blkE (ES.seq (VS.seq (VS.seq (VS.region ?_)))))));(iterate 2 refine X.lk ?_);refine X.lenT ?_;(iterate 2 refine X.lk ?_)
              refine X.bif (b:=(decide ((((atD p1.Funcs i1).Code).length:Int)=0))) (fun h10=>?_) (fun h10=>?_)
              · refine X.gN h10 ?_;refine X.gN h10 ?_;refine X.gN h10 ?_;refine X.gN h10 ?_;refine X.gN h10 ?_;refine X.gN h10 ?_;refine X.gN h10 ?_;refine X.gN h10 ?_;refine X.gN h10 ?_;refine X.gN h10 ?_;refine X.gN h10 ?_;refine X.pT h10 ?_;refine X.nil (ES.seq ?_);refine VS.condT rfl ?_;refine VS.seq (VS.region ?_);refine X.lk ?_;refine X.nil (ES.seq (VS.ret (ES.thnR ?_)));refine ES.ret ?_;exact Ret.clo [.c (.v (.int .i64 6))] ⟨rfl,trivial⟩ trivial
              · refine X.gY h10 ?_;refine X.lk ?_;refine X.gY h10 ?_;refine X.lk ?_;refine X.gY h10 ?_;refine X.lk ?_;refine X.gY h10 ?_;refine X.lk ?_;refine X.gY h10 ?_;refine X.lenT ?_;refine X.gY h10 ?_;refine X.ck fun h11=>?_;refine X.gY h10 ?_;refine X.idxT (fun h12=>?_);refine X.gY h10 ?_;refine X.lk ?_;refine X.gY h10 ?_;refine X.lk ?_;refine X.gY h10 ?_;refine X.call true [] [] (r05_Terminator_ok ((atD ((atD p1.Funcs i1).Code) ((((atD p1.Funcs i1).Code).length:Int)- 1)).Op)) (fun x4=>?_);refine X.gY h10 ?_;refine X.lk ?_;refine X.pF h10 ?_;refine X.nil (ES.seq ?_)
                refine VS.cond (fun h13=>?_) (fun h13=>?_)
                · refine VS.seq (VS.region ?_);refine X.lk ?_;refine X.nil (ES.seq (VS.ret (ES.thnR ?_)));refine ES.ret ?_;exact Ret.clo [.c (.v (.int .i64 6))] ⟨rfl,trivial⟩ trivial
                · refine VS.skip (ES.seq (VS.seq (VS.region ?_)));refine X.lk ?_;refine X.nil (ES.seq (VS.ret ?_));refine ES.ret ?_;exact Ret.clo [.c (.v (.int .i64 0))] ⟨rfl,trivial⟩ trivial
end Go.Proofs.YtgbkhjllbgmdcaaGreat.Q
