/- Walks of functions: the code does what the lifted text says (written by a program). -/
import Derived.Test.YtgbkhjllbgmdcaaGreatGw8
set_option linter.unusedVariables false
set_option linter.unusedSimpArgs false
set_option maxRecDepth 8000
namespace Go.Proofs.YtgbkhjllbgmdcaaGreat.Q
open Go.RowKit
set_option maxHeartbeats 4000000 in
theorem r10_Operands_ok (op1:Int):∀r:Bool × Bool × Bool × Bool,r10_Operands op1 r→FCalls Tryz.prog 153 [] [.c (.v (.int .i64 op1))] (.tup [.c (.v (.bool r.1)),.c (.v (.bool r.2.1)),.c (.v (.bool r.2.2.1)),.c (.v (.bool r.2.2.2))]) [] []:=by
  refine fnS 14 ?_;unfold r10_Operands;refine VS.seq (VS.region ?_);(iterate 4 refine X.lk ?_);refine X.nil (ES.seq (VS.seq (VS.seq (VS.region ?_))));refine X.lk ?_;refine X.call true [] [] (r10_memory_ok op1) (fun x1=>?_);refine X.nil (ES.seq ?_)
  refine VS.cond (fun h1=>?_) (fun h1=>?_)
  · refine VS.seq (VS.region ?_);(iterate 4 refine X.lk ?_);refine X.nil (ES.seq (VS.ret (ES.thnR ?_)));refine ES.ret ?_;exact Ret.clo [.c (.v (.bool true)),.c (.v (.bool true)),.c (.v (.bool true)),.c (.v (.bool false))] ⟨rfl,rfl,rfl,rfl,trivial⟩ trivial
  · refine VS.skip (ES.seq (VS.seq (VS.region ?_)));refine X.lk ?_;refine X.call true [] [] (r05_Operands_ok op1) (fun x2=>?_);(iterate 8 refine X.lk ?_);refine X.nil (ES.seq (VS.ret ?_));refine ES.ret ?_;exact Ret.clo [.c (.v (.bool x2.1)),.c (.v (.bool x2.2.1)),.c (.v (.bool x2.2.2.1)),.c (.v (.bool x2.2.2.2))] ⟨rfl,rfl,rfl,rfl,trivial⟩ trivial
set_option maxHeartbeats 4000000 in
theorem r10_named_ok (t1:ATarget) (x1:AInstr):∀r:Bool,r10_named t1 x1 r→FCalls Tryz.prog 154 [] [.agg ((row_ATarget t1).map .v),.agg ((row_AInstr x1).map .v)] (.w (.c (.v (.bool r)))) [] []:=by
  refine fnS 72 ?_;unfold r10_named;refine VS.seq (VS.region ?_);refine X.box 0 ?_;refine X.box 1 ?_;refine X.lk ?_;refine X.nil (ES.seq (VS.seq (VS.region ?_)));refine X.lk ?_;refine X.nil (ES.seq (VS.seq (VS.seq (VS.region ?_))));(iterate 2 refine X.lk ?_);refine X.nil (ES.seq (VS.block ?_))
  refine VS.join (fun (x2:Bool)=>(⟨[(2,.w (.c (.ptr 0 0 0))),(3,.w (.c (.ptr 1 0 0))),(5,.w (.c (.v (.int .i64 8)))),(7,.w (.c (.v (.int .i64 x1.Op)))),(8,.w (.c (.v (.bool x2))))],[some (.bx 37 ((row_ATarget t1).map .v)),some (.bx 62 ((row_AInstr x1).map .v))]⟩:St)) ?_ ?_
  · rintro x2
    refine VS.cond (fun h1=>?_) (fun h1=>?_)
    · refine VS.seq (VS.region ?_);(iterate 3 refine X.lk ?_);refine X.call true [] [] (r10_within_ok x1.A 8) (fun x3=>?_);refine X.lk ?_;refine X.nil (ES.seq (VS.ret (ES.blkR (ES.thnR ?_))));refine ES.ret ?_;exact Ret.clo [.c (.v (.bool x3))] ⟨rfl,trivial⟩ trivial
    · refine VS.join (fun (x4 : Bool) => (⟨[(2, .w (.c (.ptr 0 0 0))), (3, .w (.c (.ptr 1 0 0))), (5, .w (.c (.v (.int .i64 8)))), (7, .w (.c (.v (.int .i64 x1.Op)))), (18, .w (.c (.v (.bool x4))))], [some (.bx 37 ((row_ATarget t1).map .v)), some (.bx 62 ((row_AInstr x1).map .v))]⟩ : St)) ?_ ?_
      · rintro x4
        refine VS.cond (fun h2=>?_) (fun h2=>?_)
        · refine VS.seq (VS.region ?_);(iterate 3 refine X.lk ?_);refine X.call true [] [] (r10_within_ok x1.A 8) (fun x5=>?_);refine X.lk ?_
          refine X.bif (b:=x5) (fun h3=>?_) (fun h3=>?_)
          · refine X.gY h3 ?_;refine X.lk ?_;refine X.gY h3 ?_;refine X.lk ?_;refine X.gY h3 ?_;refine X.lk ?_;refine X.gY h3 ?_;refine X.call true [] [] (r10_within_ok x1.B 8) (fun x6=>?_);refine X.pT h3 ?_;refine X.lk ?_;refine X.nil (ES.seq (VS.ret (ES.blkR (ES.thnR ?_))));refine ES.ret ?_;exact Ret.clo [.c (.v (.bool x6))] ⟨rfl,trivial⟩ trivial
          · refine X.gN h3 ?_;refine X.gN h3 ?_;refine X.gN h3 ?_;refine X.gN h3 ?_;refine X.pF h3 ?_;refine X.lk ?_;refine X.nil (ES.seq (VS.ret (ES.blkR (ES.thnR ?_))));refine ES.ret ?_;exact Ret.clo [.c (.v (.bool false))] ⟨rfl,trivial⟩ trivial
        · refine VS.join (fun (x7:Bool)=>(⟨[(2,.w (.c (.ptr 0 0 0))),(3,.w (.c (.ptr 1 0 0))),(5,.w (.c (.v (.int .i64 8)))),(7,.w (.c (.v (.int .i64 x1.Op)))),(31,.w (.c (.v (.bool x7))))],[some (.bx 37 ((row_ATarget t1).map .v)),some (.bx 62 ((row_AInstr x1).map .v))]⟩:St)) ?_ ?_
          · rintro x7
            refine VS.cond (fun h4=>?_) (fun h4=>?_)
            · refine VS.seq (VS.region ?_);(iterate 3 refine X.lk ?_);refine X.call true [] [] (r10_within_ok x1.A 8) (fun x8=>?_);refine X.lk ?_
              refine X.bif (b:=x8) (fun h5=>?_) (fun h5=>?_)
              · refine X.gY h5 ?_;refine X.lk ?_;refine X.gY h5 ?_;refine X.lk ?_;refine X.gY h5 ?_;refine X.lk ?_;refine X.gY h5 ?_;refine X.call true [] [] (r10_within_ok x1.B 8) (fun x9=>?_);refine X.pT h5 ?_;refine X.lk ?_
                refine X.bif (b:=x9) (fun h6=>?_) (fun h6=>?_)
                · refine X.gY h6 ?_;refine X.lk ?_;refine X.gY h6 ?_;refine X.lk ?_;refine X.gY h6 ?_;refine X.lk ?_;refine X.gY h6 ?_;refine X.call true [] [] (r10_within_ok x1.C 8) (fun x10=>?_);refine X.pT h6 ?_;refine X.lk ?_;refine X.nil (ES.seq (VS.ret (ES.blkR (ES.thnR ?_))));refine ES.ret ?_;exact Ret.clo [.c (.v (.bool x10))] ⟨rfl,trivial⟩ trivial
                · refine X.gN h6 ?_;refine X.gN h6 ?_;refine X.gN h6 ?_;refine X.gN h6 ?_;refine X.pF h6 ?_;refine X.lk ?_;refine X.nil (ES.seq (VS.ret (ES.blkR (ES.thnR ?_))));refine ES.ret ?_;exact Ret.clo [.c (.v (.bool false))] ⟨rfl,trivial⟩ trivial
              · refine X.gN h5 ?_;refine X.gN h5 ?_;refine X.gN h5 ?_;refine X.gN h5 ?_;refine X.pF h5 ?_;refine X.lk ?_;refine X.gN rfl ?_;refine X.gN rfl ?_;refine X.gN rfl ?_;refine X.gN rfl ?_;refine X.pF rfl ?_;refine X.lk ?_;refine X.nil (ES.seq (VS.ret (ES.blkR (ES.thnR ?_))));refine ES.ret ?_;exact Ret.clo [.c (.v (.bool false))] ⟨rfl,trivial⟩ trivial
            · refine VS.seq (VS.region ?_);(iterate 2 refine X.lk ?_);refine X.nil (ES.seq ?_)
              refine VS.cond (fun h7=>?_) (fun h7=>?_)
              · refine VS.seq (VS.region ?_);(iterate 3 refine X.lk ?_);refine X.call true [] [] (r10_within_ok x1.B 8) (fun x11=>?_);refine X.lk ?_;refine X.nil (ES.seq (VS.ret (ES.blkR (ES.thnR ?_))));refine ES.ret ?_;exact Ret.clo [.c (.v (.bool x11))] ⟨rfl,trivial⟩ trivial
              · refine VS.seq (VS.region ?_);(iterate 2 refine X.lk ?_);refine X.nil (ES.seq ?_)
                refine VS.cond (fun h8=>?_) (fun h8=>?_)
                · refine VS.seq (VS.region ?_);(iterate 4 refine X.lk ?_);refine X.lenT ?_;refine X.call true [] [] (r10_within_ok x1.A (t1.Frames.length:Int)) (fun x12=>?_);refine X.lk ?_;refine X.nil (ES.seq (VS.ret (ES.blkR (ES.thnR ?_))));refine ES.ret ?_;exact Ret.clo [.c (.v (.bool x12))] ⟨rfl,trivial⟩ trivial
                · refine VS.skip (ES.blkN (ES.seq (VS.seq (VS.region ?_))));refine X.lk ?_;refine X.nil (ES.seq (VS.ret ?_));refine ES.ret ?_;exact Ret.clo [.c (.v (.bool true))] ⟨rfl,trivial⟩ trivial
          · intro k3 ih_k3;refine VS.seq (VS.region ?_);(iterate 2 refine X.lk ?_);refine X.nil (ES.seq ?_)
            refine VS.cond (fun h9=>?_) (fun h9=>?_)
            · refine VS.skip ?_;exact ES.jn ih_k3 (decide (x1.Op=2)) (St.le_sub ⟨rfl,rfl,rfl,rfl,rfl,trivial⟩ ⟨rfl,rfl,trivial⟩ rfl)
            · refine VS.seq (VS.region ?_);(iterate 2 refine X.lk ?_);refine X.nil (ES.seq ?_)
              refine VS.cond (fun h10=>?_) (fun h10=>?_)
              · refine VS.skip ?_;exact ES.jn ih_k3 (decide (x1.Op=3)) (St.le_sub ⟨rfl,rfl,rfl,rfl,rfl,trivial⟩ ⟨rfl,rfl,trivial⟩ rfl)
              · refine VS.seq (VS.region ?_);(iterate 2 refine X.lk ?_);refine X.nil (ES.seq ?_)
                refine VS.cond (fun h11=>?_) (fun h11=>?_)
                · refine VS.skip ?_;exact ES.jn ih_k3 (decide (x1.Op=4)) (St.le_sub ⟨rfl,rfl,rfl,rfl,rfl,trivial⟩ ⟨rfl,rfl,trivial⟩ rfl)
                · refine VS.seq (VS.region ?_);(iterate 2 refine X.lk ?_);refine X.nil (ES.seq ?_)
                  refine VS.cond (fun h12=>?_) (fun h12=>?_)
                  · refine VS.skip ?_;exact ES.jn ih_k3 (decide (x1.Op=5)) (St.le_sub ⟨rfl,rfl,rfl,rfl,rfl,trivial⟩ ⟨rfl,rfl,trivial⟩ rfl)
                  · refine VS.seq (VS.region ?_);(iterate 2 refine X.lk ?_);refine X.nil (ES.seq ?_)
                    refine VS.cond (fun h13=>?_) (fun h13=>?_)
                    · refine VS.skip ?_;exact ES.jn ih_k3 (decide (x1.Op=6)) (St.le_sub ⟨rfl,rfl,rfl,rfl,rfl,trivial⟩ ⟨rfl,rfl,trivial⟩ rfl)
                    · refine VS.seq (VS.region ?_);(iterate 2 refine X.lk ?_);refine X.nil (ES.seq ?_)
                      refine VS.cond (fun h14=>?_) (fun h14=>?_)
                      · refine VS.skip ?_;exact ES.jn ih_k3 (decide (x1.Op=7)) (St.le_sub ⟨rfl,rfl,rfl,rfl,rfl,trivial⟩ ⟨rfl,rfl,trivial⟩ rfl)
                      · refine VS.seq (VS.region ?_);(iterate 2 refine X.lk ?_);refine X.nil (ES.seq ?_)
                        refine VS.cond (fun h15=>?_) (fun h15=>?_)
                        · refine VS.skip ?_;exact ES.jn ih_k3 (decide (x1.Op=8)) (St.le_sub ⟨rfl,rfl,rfl,rfl,rfl,trivial⟩ ⟨rfl,rfl,trivial⟩ rfl)
                        · refine VS.seq (VS.region ?_);(iterate 2 refine X.lk ?_);refine X.nil (ES.seq ?_)
                          refine VS.cond (fun h16=>?_) (fun h16=>?_)
                          · refine VS.skip ?_;exact ES.jn ih_k3 (decide (x1.Op=9)) (St.le_sub ⟨rfl,rfl,rfl,rfl,rfl,trivial⟩ ⟨rfl,rfl,trivial⟩ rfl)
                          · refine VS.seq (VS.region ?_);(iterate 2 refine X.lk ?_);refine X.nil (ES.seq ?_)
                            refine VS.cond (fun h17=>?_) (fun h17=>?_)
                            · refine VS.skip ?_;exact ES.jn ih_k3 (decide (x1.Op=10)) (St.le_sub ⟨rfl,rfl,rfl,rfl,rfl,trivial⟩ ⟨rfl,rfl,trivial⟩ rfl)
                            · refine VS.region ?_;(iterate 2 refine X.lk ?_);refine X.nil ?_;exact ES.jn ih_k3 (decide (x1.Op=11)) (St.le_sub ⟨rfl,rfl,rfl,rfl,rfl,trivial⟩ ⟨rfl,rfl,trivial⟩ rfl)
      · intro k2 ih_k2;refine VS.seq (VS.region ?_);(iterate 2 refine X.lk ?_);refine X.nil (ES.seq ?_)
        refine VS.cond (fun h18=>?_) (fun h18=>?_)
        · refine VS.skip ?_;exact ES.jn ih_k2 (decide (x1.Op=1)) (St.le_sub ⟨rfl,rfl,rfl,rfl,rfl,trivial⟩ ⟨rfl,rfl,trivial⟩ rfl)
        · refine VS.region ?_;(iterate 2 refine X.lk ?_);refine X.nil ?_;exact ES.jn ih_k2 (decide (x1.Op=12)) (St.le_sub ⟨rfl,rfl,rfl,rfl,rfl,trivial⟩ ⟨rfl,rfl,trivial⟩ rfl)
  · intro k1 ih_k1;refine VS.seq (VS.region ?_);(iterate 2 refine X.lk ?_);refine X.nil (ES.seq ?_)
    refine VS.cond (fun h19=>?_) (fun h19=>?_)
    · refine VS.skip ?_;exact ES.jn ih_k1 (decide (x1.Op=0)) (St.le_sub ⟨rfl,rfl,rfl,rfl,rfl,trivial⟩ ⟨rfl,rfl,trivial⟩ rfl)
    · refine VS.seq (VS.region ?_);(iterate 2 refine X.lk ?_);refine X.nil (ES.seq ?_)
      refine VS.cond (fun h20=>?_) (fun h20=>?_)
      · refine VS.skip ?_;exact ES.jn ih_k1 (decide (x1.Op=13)) (St.le_sub ⟨rfl,rfl,rfl,rfl,rfl,trivial⟩ ⟨rfl,rfl,trivial⟩ rfl)
      · refine VS.seq (VS.region ?_);(iterate 2 refine X.lk ?_);refine X.nil (ES.seq ?_)
        refine VS.cond (fun h21=>?_) (fun h21=>?_)
        · refine VS.skip ?_;exact ES.jn ih_k1 (decide (x1.Op=14)) (St.le_sub ⟨rfl,rfl,rfl,rfl,rfl,trivial⟩ ⟨rfl,rfl,trivial⟩ rfl)
        · refine VS.seq (VS.region ?_);(iterate 2 refine X.lk ?_);refine X.nil (ES.seq ?_)
          refine VS.cond (fun h22=>?_) (fun h22=>?_)
          · refine VS.skip ?_;exact ES.jn ih_k1 (decide (x1.Op=15)) (St.le_sub ⟨rfl,rfl,rfl,rfl,rfl,trivial⟩ ⟨rfl,rfl,trivial⟩ rfl)
          · refine VS.region ?_;(iterate 2 refine X.lk ?_);refine X.nil ?_;exact ES.jn ih_k1 (decide (x1.Op=21)) (St.le_sub ⟨rfl,rfl,rfl,rfl,rfl,trivial⟩ ⟨rfl,rfl,trivial⟩ rfl)
set_option maxHeartbeats 4000000 in
theorem r10_Reads_ok (f1:AFrame) (x1:AInstr):∀r:AInterval × Bool,r10_Reads f1 x1 r→FCalls Tryz.prog 156 [] [.agg ((row_AFrame f1).map .v),.agg ((row_AInstr x1).map .v)] (.tup [.agg ((row_AInterval r.1).map .v),.c (.v (.bool r.2))]) [] []:=by
  refine fnS 20 ?_;unfold r10_Reads;refine VS.seq (VS.region ?_);refine X.box 0 ?_;refine X.box 1 ?_;refine X.alloc 2 ?_;refine X.lk ?_;refine X.nil (ES.seq (VS.seq (VS.seq (VS.region ?_))));(iterate 4 refine X.lk ?_)
  refine X.bif (b:=(decide (x1.Op=15))) (fun h1=>?_) (fun h1=>?_)
  · refine X.gN h1 ?_;refine X.gN h1 ?_;refine X.gN h1 ?_;refine X.pT h1 ?_;refine X.nil (ES.seq ?_);refine VS.condT rfl ?_;refine VS.seq (VS.region ?_);(iterate 4 refine X.lk ?_);refine X.build ?_;refine X.st ?_;refine X.lk ?_;refine X.nil (ES.seq (VS.ret (ES.thnR ?_)));refine ES.ret ?_;exact Ret.clo [.agg ((row_AInterval (⟨x1.B,x1.C⟩:AInterval)).map .v),.c (.v (.bool true))] ⟨⟨_,_,_,_,_,_,rfl,rfl,fits rfl,rfl⟩,rfl,trivial⟩ trivial
  · refine X.gY h1 ?_;refine X.lk ?_;refine X.gY h1 ?_;refine X.lk ?_;refine X.gY h1 ?_;refine X.lk ?_;refine X.pF h1 ?_;refine X.nil (ES.seq ?_)
    refine VS.cond (fun h2=>?_) (fun h2=>?_)
    · refine VS.seq (VS.region ?_);(iterate 4 refine X.lk ?_);refine X.build ?_;refine X.st ?_;refine X.lk ?_;refine X.nil (ES.seq (VS.ret (ES.thnR ?_)));refine ES.ret ?_;exact Ret.clo [.agg ((row_AInterval (⟨x1.B,x1.C⟩:AInterval)).map .v),.c (.v (.bool true))] ⟨⟨_,_,_,_,_,_,rfl,rfl,fits rfl,rfl⟩,rfl,trivial⟩ trivial
    · refine VS.skip (ES.seq (VS.seq (VS.region ?_)));refine X.build ?_;refine X.st ?_;refine X.lk ?_;refine X.nil (ES.seq (VS.ret ?_));refine ES.ret ?_;exact Ret.clo [.agg ((row_AInterval (⟨0,0⟩:AInterval)).map .v),.c (.v (.bool false))] ⟨⟨_,_,_,_,_,_,rfl,rfl,fits rfl,rfl⟩,rfl,trivial⟩ trivial
set_option maxHeartbeats 4000000 in
theorem r03_Right_ok (a1:AInterval):∀r:Bool,r03_Right a1 r→FCalls Tryz.prog 127 [] [.agg ((row_AInterval a1).map .v)] (.w (.c (.v (.bool r)))) [] []:=by
  refine fnS 19 ?_;unfold r03_Right;refine VS.seq (VS.region ?_);refine X.box 0 ?_;refine X.lk ?_;refine X.nil (ES.seq (VS.seq (VS.region ?_)));(iterate 2 refine X.lk ?_);refine X.call true [] [] (r03_Bound_ok a1.Off) (fun x1=>?_);refine X.lk ?_
  refine X.bif (b:=x1) (fun h1=>?_) (fun h1=>?_)
  · refine X.gY h1 ?_;refine X.lk ?_;refine X.gY h1 ?_;refine X.lk ?_;refine X.gY h1 ?_;refine X.call true [] [] (r03_Bound_ok a1.Size) (fun x2=>?_);refine X.pT h1 ?_;refine X.lk ?_
    refine X.bif (b:=x2) (fun h2=>?_) (fun h2=>?_)
    · refine X.gY h2 ?_;refine X.lk ?_;refine X.gY h2 ?_;refine X.lk ?_;refine X.gY h2 ?_;refine X.lk ?_;refine X.gY h2 ?_;refine X.lk ?_;refine X.gY h2 ?_;refine X.ck fun h3=>?_;refine X.gY h2 ?_;refine X.lk ?_;refine X.pT h2 ?_;refine X.lk ?_;refine X.nil (ES.seq (VS.ret ?_));refine ES.ret ?_;exact Ret.clo [.c (.v (.bool (decide ((a1.Off+a1.Size)≤2147483647))))] ⟨rfl,trivial⟩ trivial
    · refine X.gN h2 ?_;refine X.gN h2 ?_;refine X.gN h2 ?_;refine X.gN h2 ?_;refine X.gN h2 ?_;refine X.gN h2 ?_;refine X.pF h2 ?_;refine X.lk ?_;refine X.nil (ES.seq (VS.ret ?_));refine ES.ret ?_;exact Ret.clo [.c (.v (.bool false))] ⟨rfl,trivial⟩ trivial
  · refine X.gN h1 ?_;refine X.gN h1 ?_;refine X.gN h1 ?_;refine X.pF h1 ?_;refine X.lk ?_;refine X.gN rfl ?_;refine X.gN rfl ?_;refine X.gN rfl ?_;refine X.gN rfl ?_;refine X.gN rfl ?_;refine X.gN rfl ?_;refine X.pF rfl ?_;refine X.lk ?_;refine X.nil (ES.seq (VS.ret ?_));refine ES.ret ?_;exact Ret.clo [.c (.v (.bool false))] ⟨rfl,trivial⟩ trivial
set_option maxHeartbeats 4000000 in
theorem r03_Inside_ok (a1:AInterval) (size1:Int):∀r:Bool,r03_Inside a1 size1 r→FCalls Tryz.prog 85 [] [.agg ((row_AInterval a1).map .v),.c (.v (.int .i64 size1))] (.w (.c (.v (.bool r)))) [] []:=by
  refine fnS 16 ?_;unfold r03_Inside;refine VS.seq (VS.region ?_);refine X.box 0 ?_;refine X.lk ?_;refine X.nil (ES.seq (VS.seq (VS.region ?_)));refine X.lk ?_;refine X.call true [] [] (r03_Right_ok a1) (fun x1=>?_);refine X.lk ?_
  refine X.bif (b:=x1) (fun h1=>?_) (fun h1=>?_)
  · refine X.gY h1 ?_;refine X.lk ?_;refine X.gY h1 ?_;refine X.lk ?_;refine X.gY h1 ?_;refine X.lk ?_;refine X.gY h1 ?_;refine X.lk ?_;refine X.gY h1 ?_;refine X.ck fun h2=>?_;refine X.gY h1 ?_;refine X.lk ?_;refine X.gY h1 ?_;refine X.lk ?_;refine X.pT h1 ?_;refine X.lk ?_;refine X.nil (ES.seq (VS.ret ?_));refine ES.ret ?_;exact Ret.clo [.c (.v (.bool (decide ((a1.Off+a1.Size)≤size1))))] ⟨rfl,trivial⟩ trivial
  · refine X.gN h1 ?_;refine X.gN h1 ?_;refine X.gN h1 ?_;refine X.gN h1 ?_;refine X.gN h1 ?_;refine X.gN h1 ?_;refine X.gN h1 ?_;refine X.pF h1 ?_;refine X.lk ?_;refine X.nil (ES.seq (VS.ret ?_));refine ES.ret ?_;exact Ret.clo [.c (.v (.bool false))] ⟨rfl,trivial⟩ trivial
set_option maxHeartbeats 4000000 in
theorem r10_Writes_ok (f1:AFrame) (x1:AInstr):∀r:AInterval × Bool,r10_Writes f1 x1 r→FCalls Tryz.prog 157 [] [.agg ((row_AFrame f1).map .v),.agg ((row_AInstr x1).map .v)] (.tup [.agg ((row_AInterval r.1).map .v),.c (.v (.bool r.2))]) [] []:=by
  refine fnS 20 ?_;unfold r10_Writes;refine VS.seq (VS.region ?_);refine X.box 0 ?_;refine X.box 1 ?_;refine X.alloc 2 ?_;refine X.lk ?_;refine X.nil (ES.seq (VS.seq (VS.seq (VS.region ?_))));(iterate 4 refine X.lk ?_)
  refine X.bif (b:=(decide (x1.Op=16))) (fun h1=>?_) (fun h1=>?_)
  · refine X.gN h1 ?_;refine X.gN h1 ?_;refine X.gN h1 ?_;refine X.pT h1 ?_;refine X.nil (ES.seq ?_);refine VS.condT rfl ?_;refine VS.seq (VS.region ?_);(iterate 4 refine X.lk ?_);refine X.build ?_;refine X.st ?_;refine X.lk ?_;refine X.nil (ES.seq (VS.ret (ES.thnR ?_)));refine ES.ret ?_;exact Ret.clo [.agg ((row_AInterval (⟨x1.A,x1.C⟩:AInterval)).map .v),.c (.v (.bool true))] ⟨⟨_,_,_,_,_,_,rfl,rfl,fits rfl,rfl⟩,rfl,trivial⟩ trivial
  · refine X.gY h1 ?_;refine X.lk ?_;refine X.gY h1 ?_;refine X.lk ?_;refine X.gY h1 ?_;refine X.lk ?_;refine X.pF h1 ?_;refine X.nil (ES.seq ?_)
    refine VS.cond (fun h2=>?_) (fun h2=>?_)
    · refine VS.seq (VS.region ?_);(iterate 4 refine X.lk ?_);refine X.build ?_;refine X.st ?_;refine X.lk ?_;refine X.nil (ES.seq (VS.ret (ES.thnR ?_)));refine ES.ret ?_;exact Ret.clo [.agg ((row_AInterval (⟨x1.A,x1.C⟩:AInterval)).map .v),.c (.v (.bool true))] ⟨⟨_,_,_,_,_,_,rfl,rfl,fits rfl,rfl⟩,rfl,trivial⟩ trivial
    · refine VS.skip (ES.seq (VS.seq (VS.region ?_)));refine X.build ?_;refine X.st ?_;refine X.lk ?_;refine X.nil (ES.seq (VS.ret ?_));refine ES.ret ?_;exact Ret.clo [.agg ((row_AInterval (⟨0,0⟩:AInterval)).map .v),.c (.v (.bool false))] ⟨⟨_,_,_,_,_,_,rfl,rfl,fits rfl,rfl⟩,rfl,trivial⟩ trivial
set_option maxHeartbeats 4000000 in
theorem r10_CheckInstr_ok (t1 : ATarget) (i1 : Int) (k1 : Int) : ∀ r : Int, r10_CheckInstr t1 i1 k1 r → FCalls Tryz.prog 107 [] [.agg ((row_ATarget t1).map .v), .c (.v (.int .i64 i1)), .c (.v (.int .i64 k1))] (.w (.c (.v (.int .i64 r)))) [] [] := by
  refine fnS 182 ?_;unfold r10_CheckInstr;refine VS.seq (VS.region ?_);refine X.box 0 ?_;refine X.lk ?_;refine X.nil (ES.seq (VS.seq (VS.seq (VS.drawn ?_))));(iterate 3 refine X.lk ?_);refine X.lenT ?_;refine X.call true [] [] (r10_within_ok i1 (t1.Frames.length:Int)) (fun x1=>?_);(iterate 2 refine X.lk ?_)
  refine X.bif (b:=(!x1)) (fun h1=>?_) (fun h1=>?_)
  · refine X.gN h1 ?_;refine X.gN h1 ?_;refine X.gN h1 ?_;refine X.gN h1 ?_;refine X.gN h1 ?_;refine X.gN h1 ?_;refine X.gN h1 ?_;refine X.gN h1 ?_;refine X.gN h1 ?_;refine X.gN h1 ?_;refine X.pT h1 ?_;refine X.lk ?_;refine X.gN rfl ?_;refine X.gN rfl ?_;refine X.gN rfl ?_;refine X.gN rfl ?_;refine X.gN rfl ?_;refine X.gN rfl ?_;refine X.gN rfl ?_;refine X.gN rfl ?_;refine X.pT rfl ?_;refine X.nilD ?_ (by kernel_rfl);refine ES.seq ?_;refine VS.condT rfl ?_;refine VS.seq (VS.region ?_);refine X.lk ?_;refine X.nil (ES.seq (VS.ret (ES.thnR ?_)));refine ES.ret ?_;exact Ret.clo [.c (.v (.int .i64 4))] ⟨rfl,trivial⟩ trivial
  · refine X.gY h1 ?_;refine X.lk ?_;refine X.gY h1 ?_;refine X.lk ?_;refine X.gY h1 ?_;refine X.lk ?_;refine X.gY h1 ?_;refine X.lk ?_;refine X.gY h1 ?_;refine X.idxT (fun h2=>?_);refine X.gY h1 ?_;refine X.lk ?_;refine X.gY h1 ?_;refine X.lk ?_;refine X.gY h1 ?_;refine X.lenT ?_;refine X.gY h1 ?_;refine X.call true [] [] (r10_within_ok k1 (((atD t1.Frames i1).Code).length:Int)) (fun x2=>?_);refine X.gY h1 ?_;refine X.lk ?_;refine X.pF h1 ?_;refine X.lk ?_
    refine X.bif (b:=(!x2)) (fun h3=>?_) (fun h3=>?_)
    · refine X.gN h3 ?_;refine X.gN h3 ?_;refine X.gN h3 ?_;refine X.gN h3 ?_;refine X.gN h3 ?_;refine X.gN h3 ?_;refine X.gN h3 ?_;refine X.gN h3 ?_;refine X.pT h3 ?_;refine X.nilD ?_ (by kernel_rfl);refine ES.seq ?_;refine VS.condT rfl ?_;refine VS.seq (VS.region ?_);refine X.lk ?_;refine X.nil (ES.seq (VS.ret (ES.thnR ?_)));refine ES.ret ?_;exact Ret.clo [.c (.v (.int .i64 4))] ⟨rfl,trivial⟩ trivial
    · refine X.gY h3 ?_;refine X.lk ?_;refine X.gY h3 ?_;refine X.lk ?_;refine X.gY h3 ?_;refine X.lk ?_;refine X.gY h3 ?_;refine X.lk ?_;refine X.gY h3 ?_;refine X.idxT (fun h4=>?_);refine X.gY h3 ?_;refine X.lk ?_;refine X.gY h3 ?_;refine X.call true [] [] (r10_shape_ok t1 (atD t1.Frames i1)) (fun x3=>?_);refine X.gY h3 ?_;refine X.lk ?_;refine X.pF h3 ?_;refine X.nilD ?_ (by kernel_rfl);refine ES.seq ?_
      refine VS.cond (fun h5=>?_) (fun h5=>?_)
      · refine VS.seq (VS.region ?_);refine X.lk ?_;refine X.nil (ES.seq (VS.ret (ES.thnR ?_)));refine ES.ret ?_;exact Ret.clo [.c (.v (.int .i64 4))] ⟨rfl,trivial⟩ trivial
      · refine VS.skip (ES.seq (VS.seq (VS.region ?_)));(iterate 3 refine X.lk ?_);refine X.idxT (fun h6=>?_);refine X.lk ?_;refine X.alloc 1 ?_;refine X.st ?_;refine X.nil (ES.seq (VS.seq (VS.region ?_)));(iterate 3 refine X.lk ?_);refine X.idxT (fun h7=>?_);refine X.lk ?_;refine X.alloc 2 ?_;refine X.st ?_;refine X.nil (ES.seq (VS.seq ?_));refine VS.weak (s':=(⟨[(3,.w (.c (.ptr 0 0 0))),(7,.w (.c (.ptr 1 0 0))),(8,.w (.c (.ptr 2 0 0)))],[some (.bx 37 ((row_ATarget t1).map .v)),some (.bx 76 ((row_AFrame (atD t1.Frames i1)).map .v)),some (.bx 62 ((row_AInstr (atD ((atD t1.Frames i1).Code) k1)).map .v))]⟩:St)) (St.le_sub ⟨rfl,rfl,rfl,trivial⟩ ⟨rfl,rfl,rfl,trivial⟩ rfl) ?_;refine VS.seq (VS.region ?_);(iterate 2 refine X.lk ?_);refine X.call true [] [] (r10_within_ok ((atD ((atD t1.Frames i1).Code) k1).Op) 25) (fun x4=>?_);(iterate 2 refine X.lk ?_)
        refine X.bif (b:=(!x4)) (fun h8=>?_) (fun h8=>?_)
        · refine X.gN h8 ?_;refine X.gN h8 ?_;refine X.gN h8 ?_;refine X.pT h8 ?_;refine X.lk ?_;refine X.gN rfl ?_;refine X.gN rfl ?_;refine X.gN rfl ?_;refine X.pT rfl ?_;refine X.nil (ES.seq ?_);refine VS.condT rfl ?_;refine VS.seq (VS.region ?_);refine X.lk ?_;refine X.nil (ES.seq (VS.ret (ES.thnR ?_)));refine ES.ret ?_;exact Ret.clo [.c (.v (.int .i64 4))] ⟨rfl,trivial⟩ trivial
        · refine X.gY h8 ?_;refine X.lk ?_;refine X.gY h8 ?_;refine X.lk ?_;refine X.gY h8 ?_;refine X.lk ?_;refine X.pF h8 ?_;refine X.lk ?_
          refine X.bif (b:=(decide (((atD ((atD t1.Frames i1).Code) k1).Op)=18))) (fun h9=>?_) (fun h9=>?_)
          · refine X.gN h9 ?_;refine X.gN h9 ?_;refine X.gN h9 ?_;refine X.pT h9 ?_;refine X.nil (ES.seq ?_);refine VS.condT rfl ?_;refine VS.seq (VS.region ?_);refine X.lk ?_;refine X.nil (ES.seq (VS.ret (ES.thnR ?_)));refine ES.ret ?_;exact Ret.clo [.c (.v (.int .i64 4))] ⟨rfl,trivial⟩ trivial
          · refine X.gY h9 ?_;refine X.lk ?_;refine X.gY h9 ?_;refine X.lk ?_;refine X.gY h9 ?_;refine X.lk ?_;refine X.pF h9 ?_;refine X.nil (ES.seq ?_)
            refine VS.cond (fun h10=>?_) (fun h10=>?_)
            · refine VS.seq (VS.region ?_);refine X.lk ?_;refine X.nil (ES.seq (VS.ret (ES.thnR ?_)));refine ES.ret ?_;exact Ret.clo [.c (.v (.int .i64 4))] ⟨rfl,trivial⟩ trivial
            · refine VS.skip (ES.seq (VS.seq (VS.region ?_)));(iterate 2 refine X.lk ?_);refine X.call true [] [] (r10_Operands_ok ((atD ((atD t1.Frames i1).Code) k1).Op)) (fun x5=>?_);(iterate 9 refine X.lk ?_);refine X.nil (ES.seq (VS.seq ?_))
              refine VS.join (fun (x6:Bool)=>(⟨[(3,.w (.c (.ptr 0 0 0))),(7,.w (.c (.ptr 1 0 0))),(8,.w (.c (.ptr 2 0 0))),(110,.w (.c (.v (.bool x6))))],[some (.bx 37 ((row_ATarget t1).map .v)),some (.bx 76 ((row_AFrame (atD t1.Frames i1)).map .v)),some (.bx 62 ((row_AInstr (atD ((atD t1.Frames i1).Code) k1)).map .v))]⟩:St)) ?_ ?_
              · rintro x6
                refine VS.cond (fun h11=>?_) (fun h11=>?_)
                · refine VS.seq (VS.region ?_);refine X.lk ?_;refine X.nil (ES.seq (VS.ret (ES.thnR ?_)));refine ES.ret ?_;exact Ret.clo [.c (.v (.int .i64 2))] ⟨rfl,trivial⟩ trivial
                · refine VS.skip (ES.seq (VS.seq (VS.seq (VS.region ?_))));(iterate 2 refine X.lk ?_);refine X.call true [] [] (r10_named_ok t1 (atD ((atD t1.Frames i1).Code) k1)) (fun x7=>?_);refine X.lk ?_;refine X.nil (ES.seq ?_)
                  refine VS.cond (fun h12=>?_) (fun h12=>?_)
                  · refine VS.seq (VS.region ?_);refine X.lk ?_;refine X.nil (ES.seq (VS.ret (ES.thnR ?_)));refine ES.ret ?_;exact Ret.clo [.c (.v (.int .i64 4))] ⟨rfl,trivial⟩ trivial
                  · refine VS.skip (ES.seq ?_)
                    refine VS.join (fun (_:Unit)=>(⟨[(7,.w (.c (.ptr 0 0 0))),(8,.w (.c (.ptr 1 0 0)))],[some (.bx 76 ((row_AFrame (atD t1.Frames i1)).map .v)),some (.bx 62 ((row_AInstr (atD ((atD t1.Frames i1).Code) k1)).map .v))]⟩:St)) ?_ ?_
                    · rintro ⟨⟩
                      refine VS.join (fun (_:Unit)=>(⟨[(7,.w (.c (.ptr 0 0 0))),(8,.w (.c (.ptr 1 0 0)))],[some (.bx 76 ((row_AFrame (atD t1.Frames i1)).map .v)),some (.bx 62 ((row_AInstr (atD ((atD t1.Frames i1).Code) k1)).map .v))]⟩:St)) ?_ ?_
                      · rintro ⟨⟩
                        refine VS.join (fun (_:Unit)=>(⟨[(7,.w (.c (.ptr 0 0 0))),(8,.w (.c (.ptr 1 0 0)))],[some (.bx 76 ((row_AFrame (atD t1.Frames i1)).map .v)),some (.bx 62 ((row_AInstr (atD ((atD t1.Frames i1).Code) k1)).map .v))]⟩:St)) ?_ ?_
                        · rintro ⟨⟩;refine VS.seq (VS.seq (VS.region ?_));(iterate 4 refine X.lk ?_)
                          refine X.bif (b:=(decide (((atD ((atD t1.Frames i1).Code) k1).Op)=20))) (fun h13=>?_) (fun h13=>?_)
                          · refine X.gY h13 ?_;refine X.lk ?_;refine X.gY h13 ?_;refine X.lk ?_;refine X.gY h13 ?_;refine X.lk ?_;refine X.gY h13 ?_;refine X.lk ?_;refine X.gY h13 ?_;refine X.lenT ?_;refine X.gY h13 ?_;refine X.call true [] [] (r10_within_ok ((atD ((atD t1.Frames i1).Code) k1).A) (((atD t1.Frames i1).Code).length:Int)) (fun x8=>?_);refine X.gY h13 ?_;refine X.lk ?_;refine X.pT h13 ?_;refine X.lk ?_
                            refine X.bif (b:=(!x8)) (fun h14=>?_) (fun h14=>?_)
                            · refine X.gN h14 ?_;refine X.gN h14 ?_;refine X.gN h14 ?_;refine X.gN h14 ?_;refine X.gU ?_;refine X.gU ?_;refine X.gU ?_;refine X.gU ?_;refine X.gU ?_;refine X.gU ?_;refine X.gU ?_;refine X.gN h14 ?_;refine X.pT h14 ?_;refine X.nil (ES.seq ?_);refine VS.condT rfl ?_;refine VS.seq (VS.region ?_);refine X.lk ?_;refine X.nil (ES.seq (VS.ret (ES.thnR ?_)));refine ES.ret ?_;exact Ret.clo [.c (.v (.int .i64 6))] ⟨rfl,trivial⟩ trivial
                            · refine X.gY h14 ?_;refine X.lk ?_;refine X.gY h14 ?_;refine X.lk ?_;refine X.gY h14 ?_;refine X.lk ?_;refine X.gY h14 ?_;refine X.lk ?_
                              refine X.bif (b:=(decide (((atD ((atD t1.Frames i1).Code) k1).Op)=21))) (fun h15=>?_) (fun h15=>?_)
                              · refine X.gY h15 ?_;refine X.lk ?_;refine X.gY h15 ?_;refine X.lk ?_;refine X.gY h15 ?_;refine X.lk ?_;refine X.gY h15 ?_;refine X.lk ?_;refine X.gY h15 ?_;refine X.lenT ?_;refine X.gY h15 ?_;refine X.call true [] [] (r10_within_ok ((atD ((atD t1.Frames i1).Code) k1).B) (((atD t1.Frames i1).Code).length:Int)) (fun x9=>?_);refine X.gY h15 ?_;refine X.lk ?_;refine X.gY h14 ?_;refine X.pT h15 ?_;refine X.pF h14 ?_;refine X.nil (ES.seq ?_)
                                refine VS.cond (fun h16=>?_) (fun h16=>?_)
                                · refine VS.seq (VS.region ?_);refine X.lk ?_;refine X.nil (ES.seq (VS.ret (ES.thnR ?_)));refine ES.ret ?_;exact Ret.clo [.c (.v (.int .i64 6))] ⟨rfl,trivial⟩ trivial
                                · refine VS.skip (ES.seq (VS.seq (VS.region ?_)));refine X.lk ?_;refine X.nil (ES.seq (VS.ret ?_));refine ES.ret ?_;exact Ret.clo [.c (.v (.int .i64 0))] ⟨rfl,trivial⟩ trivial
                              · refine X.gN h15 ?_;refine X.gN h15 ?_;refine X.gN h15 ?_;refine X.gN h15 ?_;refine X.gN h15 ?_;refine X.gN h15 ?_;refine X.gN h15 ?_;refine X.gY h14 ?_;refine X.pF h15 ?_;refine X.pF h14 ?_;refine X.nil (ES.seq ?_);refine VS.condF rfl ?_;refine VS.skip (ES.seq (VS.seq (VS.region ?_)));refine X.lk ?_;refine X.nil (ES.seq (VS.ret ?_));refine ES.ret ?_;exact Ret.clo [.c (.v (.int .i64 0))] ⟨rfl,trivial⟩ trivial
                          · refine X.gN h13 ?_;refine X.gN h13 ?_;refine X.gN h13 ?_;refine X.gN h13 ?_;refine X.gN h13 ?_;refine X.gN h13 ?_;refine X.gN h13 ?_;refine X.pF h13 ?_;refine X.lk ?_;refine X.gY rfl ?_;refine X.lk ?_;refine X.gY rfl ?_;refine X.lk ?_;refine X.gY rfl ?_;refine X.lk ?_;refine X.gY rfl ?_;refine X.lk ?_
                            refine X.bif (b:=(decide (((atD ((atD t1.Frames i1).Code) k1).Op)=21))) (fun h17=>?_) (fun h17=>?_)
                            · refine X.gY h17 ?_;refine X.lk ?_;refine X.gY h17 ?_;refine X.lk ?_;refine X.gY h17 ?_;refine X.lk ?_;refine X.gY h17 ?_;refine X.lk ?_;refine X.gY h17 ?_;refine X.lenT ?_;refine X.gY h17 ?_;refine X.call true [] [] (r10_within_ok ((atD ((atD t1.Frames i1).Code) k1).B) (((atD t1.Frames i1).Code).length:Int)) (fun x10=>?_);refine X.gY h17 ?_;refine X.lk ?_;refine X.gY rfl ?_;refine X.pT h17 ?_;refine X.pF rfl ?_;refine X.nil (ES.seq ?_)
                              refine VS.cond (fun h18=>?_) (fun h18=>?_)
                              · refine VS.seq (VS.region ?_);refine X.lk ?_;refine X.nil (ES.seq (VS.ret (ES.thnR ?_)));refine ES.ret ?_;exact Ret.clo [.c (.v (.int .i64 6))] ⟨rfl,trivial⟩ trivial
                              · refine VS.skip (ES.seq (VS.seq (VS.region ?_)));refine X.lk ?_;refine X.nil (ES.seq (VS.ret ?_));refine ES.ret ?_;exact Ret.clo [.c (.v (.int .i64 0))] ⟨rfl,trivial⟩ trivial
                            · refine X.gN h17 ?_;refine X.gN h17 ?_;refine X.gN h17 ?_;refine X.gN h17 ?_;refine X.gN h17 ?_;refine X.gN h17 ?_;refine X.gN h17 ?_;refine X.gY rfl ?_;refine X.pF h17 ?_;refine X.pF rfl ?_;refine X.nil (ES.seq ?_);refine VS.condF rfl ?_;refine VS.skip (ES.seq (VS.seq (VS.region ?_)));refine X.lk ?_;refine X.nil (ES.seq (VS.ret ?_));refine ES.ret ?_;exact Ret.clo [.c (.v (.int .i64 0))] ⟨rfl,trivial⟩ trivial
                        · intro k5 ih_k5;refine VS.seq (VS.region ?_);(iterate 2 refine X.lk ?_);refine X.call true [] [] (r10_Writes_ok (atD t1.Frames i1) (atD ((atD t1.Frames i1).Code) k1)) (fun x11=>?_);(iterate 3 refine X.lk ?_);refine X.alloc 2 ?_;refine X.st ?_;refine X.lk ?_;refine X.nil (ES.seq (VS.seq (VS.region ?_)));(iterate 2 refine X.lk ?_)
                          refine X.bif (b:=x11.2) (fun h19=>?_) (fun h19=>?_)
                          · refine X.gY h19 ?_;refine X.lk ?_;refine X.gY h19 ?_;refine X.lk ?_;refine X.gY h19 ?_;refine X.lk ?_;refine X.gY h19 ?_;refine X.call true [] [] (r03_Inside_ok x11.1 ((atD t1.Frames i1).Size)) (fun x12=>?_);refine X.gY h19 ?_;refine X.lk ?_;refine X.pT h19 ?_;refine X.nil (ES.seq ?_)
                            refine VS.cond (fun h20=>?_) (fun h20=>?_)
                            · refine VS.seq (VS.region ?_);refine X.lk ?_;refine X.nil (ES.seq (VS.ret (ES.thnR ?_)));refine ES.ret ?_;exact Ret.clo [.c (.v (.int .i64 4))] ⟨rfl,trivial⟩ trivial
                            · refine VS.skip ?_;exact ES.jn ih_k5 () (St.le_sub ⟨rfl,rfl,trivial⟩ ⟨rfl,rfl,trivial⟩ rfl)
                          · refine X.gN h19 ?_;refine X.gN h19 ?_;refine X.gN h19 ?_;refine X.gN h19 ?_;refine X.gN h19 ?_;refine X.pF h19 ?_;refine X.nil (ES.seq ?_);refine VS.condF rfl ?_;refine VS.skip ?_;exact ES.jn ih_k5 () (St.le_sub ⟨rfl,rfl,trivial⟩ ⟨rfl,rfl,trivial⟩ rfl)
                      · intro k4 ih_k4;refine VS.seq (VS.region ?_);(iterate 2 refine X.lk ?_);refine X.call true [] [] (r10_Reads_ok (atD t1.Frames i1) (atD ((atD t1.Frames i1).Code) k1)) (fun x13=>?_);(iterate 3 refine X.lk ?_);refine X.alloc 2 ?_;refine X.st ?_;refine X.lk ?_;refine X.nil (ES.seq (VS.seq (VS.region ?_)));(iterate 2 refine X.lk ?_)
                        refine X.bif (b:=x13.2) (fun h21=>?_) (fun h21=>?_)
                        · refine X.gY h21 ?_;refine X.lk ?_;refine X.gY h21 ?_;refine X.lk ?_;refine X.gY h21 ?_;refine X.lk ?_;refine X.gY h21 ?_;refine X.lk ?_;refine X.gY h21 ?_;refine X.lk ?_;refine X.gY h21 ?_;refine X.ck fun h22=>?_;refine X.gY h21 ?_;refine X.ck fun h23=>?_;refine X.gY h21 ?_;refine X.call true [] [] (r03_Inside_ok x13.1 (((atD t1.Frames i1).Size)+((16:Int)*((atD t1.Frames i1).Params)))) (fun x14=>?_);refine X.gY h21 ?_;refine X.lk ?_;refine X.pT h21 ?_;refine X.nil (ES.seq ?_)
                          refine VS.cond (fun h24=>?_) (fun h24=>?_)
                          · refine VS.seq (VS.region ?_);refine X.lk ?_;refine X.nil (ES.seq (VS.ret (ES.thnR ?_)));refine ES.ret ?_;exact Ret.clo [.c (.v (.int .i64 4))] ⟨rfl,trivial⟩ trivial
                          · refine VS.skip ?_;exact ES.jn ih_k4 () (St.le_sub ⟨rfl,rfl,trivial⟩ ⟨rfl,rfl,trivial⟩ rfl)
                        · refine X.gN h21 ?_;refine X.gN h21 ?_;refine X.gN h21 ?_;refine X.gN h21 ?_;refine X.gN h21 ?_;refine X.gN h21 ?_;refine X.gN h21 ?_;refine X.gN h21 ?_;refine X.gN h21 ?_;refine X.pF h21 ?_;refine X.nil (ES.seq ?_);refine VS.condF rfl ?_;refine VS.skip ?_;exact ES.jn ih_k4 () (St.le_sub ⟨rfl,rfl,trivial⟩ ⟨rfl,rfl,trivial⟩ rfl)
                    · intro k3 ih_k3;refine VS.seq (VS.region ?_);(iterate 2 refine X.lk ?_);refine X.call true [] [] (r10_memory_ok ((atD ((atD t1.Frames i1).Code) k1).Op)) (fun x15=>?_);refine X.lk ?_
                      refine X.bif (b:=x15) (fun h25=>?_) (fun h25=>?_)
                      · refine X.gY h25 ?_;refine X.lk ?_;refine X.gY h25 ?_;refine X.lk ?_;refine X.gY h25 ?_;refine X.call true [] [] (r02_Size_ok ((atD ((atD t1.Frames i1).Code) k1).C)) (fun x16=>?_);refine X.gY h25 ?_;refine X.lk ?_;refine X.pT h25 ?_;refine X.nil (ES.seq ?_)
                        refine VS.cond (fun h26=>?_) (fun h26=>?_)
                        · refine VS.seq (VS.region ?_);refine X.lk ?_;refine X.nil (ES.seq (VS.ret (ES.thnR ?_)));refine ES.ret ?_;exact Ret.clo [.c (.v (.int .i64 5))] ⟨rfl,trivial⟩ trivial
                        · refine VS.skip ?_;exact ES.jn ih_k3 () ((St.le_drop _ 0 (Nat.le_of_ble_eq_true rfl)).trans ((St.le_mvB _ 1 0 rfl rfl rfl rfl).trans ((St.le_mvB _ 2 1 rfl rfl rfl rfl).trans (St.le_sub ⟨rfl,rfl,trivial⟩ ⟨rfl,rfl,trivial⟩ rfl))))
                      · refine X.gN h25 ?_;refine X.gN h25 ?_;refine X.gN h25 ?_;refine X.gN h25 ?_;refine X.pF h25 ?_;refine X.nil (ES.seq ?_);refine VS.condF rfl ?_;refine VS.skip ?_;exact ES.jn ih_k3 () ((St.le_drop _ 0 (Nat.le_of_ble_eq_true rfl)).trans ((St.le_mvB _ 1 0 rfl rfl rfl rfl).trans ((St.le_mvB _ 2 1 rfl rfl rfl rfl).trans (St.le_sub ⟨rfl,rfl,trivial⟩ ⟨rfl,rfl,trivial⟩ rfl))))
              · intro k2 ih_k2;refine VS.region ?_;(iterate 3 refine X.lk ?_)
                refine X.bif (b:=(!x5.1)) (fun h27=>?_) (fun h27=>?_)
                · refine X.gY h27 ?_;refine X.lk ?_;refine X.gY h27 ?_;refine X.lk ?_;refine X.gY h27 ?_;refine X.lk ?_;refine X.pT h27 ?_;refine X.lk ?_
                  refine X.bif (b:=(!decide (((atD ((atD t1.Frames i1).Code) k1).A)=0))) (fun h28=>?_) (fun h28=>?_)
                  · refine X.gN h28 ?_;refine X.gN h28 ?_;refine X.gN h28 ?_;refine X.gU ?_;refine X.gU ?_;refine X.gU ?_;refine X.gN h28 ?_;refine X.pT h28 ?_;refine X.lk ?_;refine X.gN rfl ?_;refine X.gN rfl ?_;refine X.gN rfl ?_;refine X.gU ?_;refine X.gU ?_;refine X.gU ?_;refine X.gN rfl ?_;refine X.pT rfl ?_;refine X.lk ?_;refine X.gN rfl ?_;refine X.gN rfl ?_;refine X.gN rfl ?_;refine X.gU ?_;refine X.gU ?_;refine X.gU ?_;refine X.gN rfl ?_;refine X.pT rfl ?_;refine X.nil ?_;exact ES.jn ih_k2 true (St.le_sub ⟨rfl,rfl,rfl,rfl,trivial⟩ ⟨rfl,rfl,rfl,trivial⟩ rfl)
                  · refine X.gY h28 ?_;refine X.lk ?_;refine X.gY h28 ?_;refine X.lk ?_;refine X.gY h28 ?_;refine X.lk ?_
                    refine X.bif (b:=(!x5.2.1)) (fun h29=>?_) (fun h29=>?_)
                    · refine X.gY h29 ?_;refine X.lk ?_;refine X.gY h29 ?_;refine X.lk ?_;refine X.gY h29 ?_;refine X.lk ?_;refine X.gY h28 ?_;refine X.pT h29 ?_;refine X.pF h28 ?_;refine X.lk ?_
                      refine X.bif (b:=(!decide (((atD ((atD t1.Frames i1).Code) k1).B)=0))) (fun h30=>?_) (fun h30=>?_)
                      · refine X.gN h30 ?_;refine X.gN h30 ?_;refine X.gN h30 ?_;refine X.gU ?_;refine X.gU ?_;refine X.gU ?_;refine X.gN h30 ?_;refine X.pT h30 ?_;refine X.lk ?_;refine X.gN rfl ?_;refine X.gN rfl ?_;refine X.gN rfl ?_;refine X.gU ?_;refine X.gU ?_;refine X.gU ?_;refine X.gN rfl ?_;refine X.pT rfl ?_;refine X.nil ?_;exact ES.jn ih_k2 true (St.le_sub ⟨rfl,rfl,rfl,rfl,trivial⟩ ⟨rfl,rfl,rfl,trivial⟩ rfl)
                      · refine X.gY h30 ?_;refine X.lk ?_;refine X.gY h30 ?_;refine X.lk ?_;refine X.gY h30 ?_;refine X.lk ?_
                        refine X.bif (b:=(!x5.2.2.1)) (fun h31=>?_) (fun h31=>?_)
                        · refine X.gY h31 ?_;refine X.lk ?_;refine X.gY h31 ?_;refine X.lk ?_;refine X.gY h31 ?_;refine X.lk ?_;refine X.gY h30 ?_;refine X.pT h31 ?_;refine X.pF h30 ?_;refine X.lk ?_
                          refine X.bif (b:=(!decide (((atD ((atD t1.Frames i1).Code) k1).C)=0))) (fun h32=>?_) (fun h32=>?_)
                          · refine X.gN h32 ?_;refine X.gN h32 ?_;refine X.gN h32 ?_;refine X.gU ?_;refine X.gU ?_;refine X.gU ?_;refine X.gN h32 ?_;refine X.pT h32 ?_;refine X.nil ?_;exact ES.jn ih_k2 true (St.le_sub ⟨rfl,rfl,rfl,rfl,trivial⟩ ⟨rfl,rfl,rfl,trivial⟩ rfl)
                          · refine X.gY h32 ?_;refine X.lk ?_;refine X.gY h32 ?_;refine X.lk ?_;refine X.gY h32 ?_;refine X.lk ?_
                            refine X.bif (b:=(!x5.2.2.2)) (fun h33=>?_) (fun h33=>?_)
                            · refine X.gY h33 ?_;refine X.lk ?_;refine X.gY h33 ?_;refine X.lk ?_;refine X.gY h33 ?_;refine X.lk ?_;refine X.gY h32 ?_;refine X.pT h33 ?_;refine X.pF h32 ?_;refine X.nil ?_;exact ES.jn ih_k2 (!decide (((atD ((atD t1.Frames i1).Code) k1).Imm)=0)) (St.le_sub ⟨rfl,rfl,rfl,rfl,trivial⟩ ⟨rfl,rfl,rfl,trivial⟩ rfl)
                            · refine X.gN h33 ?_;refine X.gN h33 ?_;refine X.gN h33 ?_;refine X.gY h32 ?_;refine X.pF h33 ?_;refine X.pF h32 ?_;refine X.nil ?_;exact ES.jn ih_k2 false (St.le_sub ⟨rfl,rfl,rfl,rfl,trivial⟩ ⟨rfl,rfl,rfl,trivial⟩ rfl)
                        · refine X.gN h31 ?_;refine X.gN h31 ?_;refine X.gN h31 ?_;refine X.gY h30 ?_;refine X.pF h31 ?_;refine X.pF h30 ?_;refine X.lk ?_;refine X.gY rfl ?_;refine X.lk ?_;refine X.gY rfl ?_;refine X.lk ?_;refine X.gY rfl ?_;refine X.lk ?_
                          refine X.bif (b:=(!x5.2.2.2)) (fun h34=>?_) (fun h34=>?_)
                          · refine X.gY h34 ?_;refine X.lk ?_;refine X.gY h34 ?_;refine X.lk ?_;refine X.gY h34 ?_;refine X.lk ?_;refine X.gY rfl ?_;refine X.pT h34 ?_;refine X.pF rfl ?_;refine X.nil ?_;exact ES.jn ih_k2 (!decide (((atD ((atD t1.Frames i1).Code) k1).Imm)=0)) (St.le_sub ⟨rfl,rfl,rfl,rfl,trivial⟩ ⟨rfl,rfl,rfl,trivial⟩ rfl)
                          · refine X.gN h34 ?_;refine X.gN h34 ?_;refine X.gN h34 ?_;refine X.gY rfl ?_;refine X.pF h34 ?_;refine X.pF rfl ?_;refine X.nil ?_;exact ES.jn ih_k2 false (St.le_sub ⟨rfl,rfl,rfl,rfl,trivial⟩ ⟨rfl,rfl,rfl,trivial⟩ rfl)
                    · refine X.gN h29 ?_;refine X.gN h29 ?_;refine X.gN h29 ?_;refine X.gY h28 ?_;refine X.pF h29 ?_;refine X.pF h28 ?_;refine X.lk ?_;refine X.gY rfl ?_;refine X.lk ?_;refine X.gY rfl ?_;refine X.lk ?_;refine X.gY rfl ?_;refine X.lk ?_
                      refine X.bif (b:=(!x5.2.2.1)) (fun h35=>?_) (fun h35=>?_)
                      · refine X.gY h35 ?_;refine X.lk ?_;refine X.gY h35 ?_;refine X.lk ?_;refine X.gY h35 ?_;refine X.lk ?_;refine X.gY rfl ?_;refine X.pT h35 ?_;refine X.pF rfl ?_;refine X.lk ?_
                        refine X.bif (b:=(!decide (((atD ((atD t1.Frames i1).Code) k1).C)=0))) (fun h36=>?_) (fun h36=>?_)
                        · refine X.gN h36 ?_;refine X.gN h36 ?_;refine X.gN h36 ?_;refine X.gU ?_;refine X.gU ?_;refine X.gU ?_;refine X.gN h36 ?_;refine X.pT h36 ?_;refine X.nil ?_;exact ES.jn ih_k2 true (St.le_sub ⟨rfl,rfl,rfl,rfl,trivial⟩ ⟨rfl,rfl,rfl,trivial⟩ rfl)
                        · refine X.gY h36 ?_;refine X.lk ?_;refine X.gY h36 ?_;refine X.lk ?_;refine X.gY h36 ?_;refine X.lk ?_
                          refine X.bif (b:=(!x5.2.2.2)) (fun h37=>?_) (fun h37=>?_)
                          · refine X.gY h37 ?_;refine X.lk ?_;refine X.gY h37 ?_;refine X.lk ?_;refine X.gY h37 ?_;refine X.lk ?_;refine X.gY h36 ?_;refine X.pT h37 ?_;refine X.pF h36 ?_;refine X.nil ?_;exact ES.jn ih_k2 (!decide (((atD ((atD t1.Frames i1).Code) k1).Imm)=0)) (St.le_sub ⟨rfl,rfl,rfl,rfl,trivial⟩ ⟨rfl,rfl,rfl,trivial⟩ rfl)
                          · refine X.gN h37 ?_;refine X.gN h37 ?_;refine X.gN h37 ?_;refine X.gY h36 ?_;refine X.pF h37 ?_;refine X.pF h36 ?_;refine X.nil ?_;exact ES.jn ih_k2 false (St.le_sub ⟨rfl,rfl,rfl,rfl,trivial⟩ ⟨rfl,rfl,rfl,trivial⟩ rfl)
                      · refine X.gN h35 ?_;refine X.gN h35 ?_;refine X.gN h35 ?_;refine X.gY rfl ?_;refine X.pF h35 ?_;refine X.pF rfl ?_;refine X.lk ?_;refine X.gY rfl ?_;refine X.lk ?_;refine X.gY rfl ?_;refine X.lk ?_;refine X.gY rfl ?_;refine X.lk ?_
                        refine X.bif (b:=(!x5.2.2.2)) (fun h38=>?_) (fun h38=>?_)
                        · refine X.gY h38 ?_;refine X.lk ?_;refine X.gY h38 ?_;refine X.lk ?_;refine X.gY h38 ?_;refine X.lk ?_;refine X.gY rfl ?_;refine X.pT h38 ?_;refine X.pF rfl ?_;refine X.nil ?_;exact ES.jn ih_k2 (!decide (((atD ((atD t1.Frames i1).Code) k1).Imm)=0)) (St.le_sub ⟨rfl,rfl,rfl,rfl,trivial⟩ ⟨rfl,rfl,rfl,trivial⟩ rfl)
                        · refine X.gN h38 ?_;refine X.gN h38 ?_;refine X.gN h38 ?_;refine X.gY rfl ?_;refine X.pF h38 ?_;refine X.pF rfl ?_;refine X.nil ?_;exact ES.jn ih_k2 false (St.le_sub ⟨rfl,rfl,rfl,rfl,trivial⟩ ⟨rfl,rfl,rfl,trivial⟩ rfl)
                · refine X.gN h27 ?_;refine X.gN h27 ?_;refine X.gN h27 ?_;refine X.pF h27 ?_;refine X.lk ?_;refine X.gY rfl ?_;refine X.lk ?_;refine X.gY rfl ?_;refine X.lk ?_;refine X.gY rfl ?_;refine X.lk ?_
                  refine X.bif (b:=(!x5.2.1)) (fun h39=>?_) (fun h39=>?_)
                  · refine X.gY h39 ?_;refine X.lk ?_;refine X.gY h39 ?_;refine X.lk ?_;refine X.gY h39 ?_;refine X.lk ?_;refine X.gY rfl ?_;refine X.pT h39 ?_;refine X.pF rfl ?_;refine X.lk ?_
                    refine X.bif (b:=(!decide (((atD ((atD t1.Frames i1).Code) k1).B)=0))) (fun h40=>?_) (fun h40=>?_)
                    · refine X.gN h40 ?_;refine X.gN h40 ?_;refine X.gN h40 ?_;refine X.gU ?_;refine X.gU ?_;refine X.gU ?_;refine X.gN h40 ?_;refine X.pT h40 ?_;refine X.lk ?_;refine X.gN rfl ?_;refine X.gN rfl ?_;refine X.gN rfl ?_;refine X.gU ?_;refine X.gU ?_;refine X.gU ?_;refine X.gN rfl ?_;refine X.pT rfl ?_;refine X.nil ?_;exact ES.jn ih_k2 true (St.le_sub ⟨rfl,rfl,rfl,rfl,trivial⟩ ⟨rfl,rfl,rfl,trivial⟩ rfl)
                    · refine X.gY h40 ?_;refine X.lk ?_;refine X.gY h40 ?_;refine X.lk ?_;refine X.gY h40 ?_;refine X.lk ?_
                      refine X.bif (b:=(!x5.2.2.1)) (fun h41=>?_) (fun h41=>?_)
                      · refine X.gY h41 ?_;refine X.lk ?_;refine X.gY h41 ?_;refine X.lk ?_;refine X.gY h41 ?_;refine X.lk ?_;refine X.gY h40 ?_;refine X.pT h41 ?_;refine X.pF h40 ?_;refine X.lk ?_
                        refine X.bif (b:=(!decide (((atD ((atD t1.Frames i1).Code) k1).C)=0))) (fun h42=>?_) (fun h42=>?_)
                        · refine X.gN h42 ?_;refine X.gN h42 ?_;refine X.gN h42 ?_;refine X.gU ?_;refine X.gU ?_;refine X.gU ?_;refine X.gN h42 ?_;refine X.pT h42 ?_;refine X.nil ?_;exact ES.jn ih_k2 true (St.le_sub ⟨rfl,rfl,rfl,rfl,trivial⟩ ⟨rfl,rfl,rfl,trivial⟩ rfl)
                        · refine X.gY h42 ?_;refine X.lk ?_;refine X.gY h42 ?_;refine X.lk ?_;refine X.gY h42 ?_;refine X.lk ?_
                          refine X.bif (b:=(!x5.2.2.2)) (fun h43=>?_) (fun h43=>?_)
                          · refine X.gY h43 ?_;refine X.lk ?_;refine X.gY h43 ?_;refine X.lk ?_;refine X.gY h43 ?_;refine X.lk ?_;refine X.gY h42 ?_;refine X.pT h43 ?_;refine X.pF h42 ?_;refine X.nil ?_;exact ES.jn ih_k2 (!decide (((atD ((atD t1.Frames i1).Code) k1).Imm)=0)) (St.le_sub ⟨rfl,rfl,rfl,rfl,trivial⟩ ⟨rfl,rfl,rfl,trivial⟩ rfl)
                          · refine X.gN h43 ?_;refine X.gN h43 ?_;refine X.gN h43 ?_;refine X.gY h42 ?_;refine X.pF h43 ?_;refine X.pF h42 ?_;refine X.nil ?_;exact ES.jn ih_k2 false (St.le_sub ⟨rfl,rfl,rfl,rfl,trivial⟩ ⟨rfl,rfl,rfl,trivial⟩ rfl)
                      · refine X.gN h41 ?_;refine X.gN h41 ?_;refine X.gN h41 ?_;refine X.gY h40 ?_;refine X.pF h41 ?_;refine X.pF h40 ?_;refine X.lk ?_;refine X.gY rfl ?_;refine X.lk ?_;refine X.gY rfl ?_;refine X.lk ?_;refine X.gY rfl ?_;refine X.lk ?_
                        refine X.bif (b:=(!x5.2.2.2)) (fun h44=>?_) (fun h44=>?_)
                        · refine X.gY h44 ?_;refine X.lk ?_;refine X.gY h44 ?_;refine X.lk ?_;refine X.gY h44 ?_;refine X.lk ?_;refine X.gY rfl ?_;refine X.pT h44 ?_;refine X.pF rfl ?_;refine X.nil ?_;exact ES.jn ih_k2 (!decide (((atD ((atD t1.Frames i1).Code) k1).Imm)=0)) (St.le_sub ⟨rfl,rfl,rfl,rfl,trivial⟩ ⟨rfl,rfl,rfl,trivial⟩ rfl)
                        · refine X.gN h44 ?_;refine X.gN h44 ?_;refine X.gN h44 ?_;refine X.gY rfl ?_;refine X.pF h44 ?_;refine X.pF rfl ?_;refine X.nil ?_;exact ES.jn ih_k2 false (St.le_sub ⟨rfl,rfl,rfl,rfl,trivial⟩ ⟨rfl,rfl,rfl,trivial⟩ rfl)
                  · refine X.gN h39 ?_;refine X.gN h39 ?_;refine X.gN h39 ?_;refine X.gY rfl ?_;refine X.pF h39 ?_;refine X.pF rfl ?_;refine X.lk ?_;refine X.gY rfl ?_;refine X.lk ?_;refine X.gY rfl ?_;refine X.lk ?_;refine X.gY rfl ?_;refine X.lk ?_
                    refine X.bif (b:=(!x5.2.2.1)) (fun h45=>?_) (fun h45=>?_)
                    · refine X.gY h45 ?_;refine X.lk ?_;refine X.gY h45 ?_;refine X.lk ?_;refine X.gY h45 ?_;refine X.lk ?_;refine X.gY rfl ?_;refine X.pT h45 ?_;refine X.pF rfl ?_;refine X.lk ?_
                      refine X.bif (b:=(!decide (((atD ((atD t1.Frames i1).Code) k1).C)=0))) (fun h46=>?_) (fun h46=>?_)
                      · refine X.gN h46 ?_;refine X.gN h46 ?_;refine X.gN h46 ?_;refine X.gU ?_;refine X.gU ?_;refine X.gU ?_;refine X.gN h46 ?_;refine X.pT h46 ?_;refine X.nil ?_;exact ES.jn ih_k2 true (St.le_sub ⟨rfl,rfl,rfl,rfl,trivial⟩ ⟨rfl,rfl,rfl,trivial⟩ rfl)
                      · refine X.gY h46 ?_;refine X.lk ?_;refine X.gY h46 ?_;refine X.lk ?_;refine X.gY h46 ?_;refine X.lk ?_
                        refine X.bif (b:=(!x5.2.2.2)) (fun h47=>?_) (fun h47=>?_)
                        · refine X.gY h47 ?_;refine X.lk ?_;refine X.gY h47 ?_;refine X.lk ?_;refine X.gY h47 ?_;refine X.lk ?_;refine X.gY h46 ?_;refine X.pT h47 ?_;refine X.pF h46 ?_;refine X.nil ?_;exact ES.jn ih_k2 (!decide (((atD ((atD t1.Frames i1).Code) k1).Imm)=0)) (St.le_sub ⟨rfl,rfl,rfl,rfl,trivial⟩ ⟨rfl,rfl,rfl,trivial⟩ rfl)
                        · refine X.gN h47 ?_;refine X.gN h47 ?_;refine X.gN h47 ?_;refine X.gY h46 ?_;refine X.pF h47 ?_;refine X.pF h46 ?_;refine X.nil ?_;exact ES.jn ih_k2 false (St.le_sub ⟨rfl,rfl,rfl,rfl,trivial⟩ ⟨rfl,rfl,rfl,trivial⟩ rfl)
                    · refine X.gN h45 ?_;refine X.gN h45 ?_;refine X.gN h45 ?_;refine X.gY rfl ?_;refine X.pF h45 ?_;refine X.pF rfl ?_;refine X.lk ?_;refine X.gY rfl ?_;refine X.lk ?_;refine X.gY rfl ?_;refine X.lk ?_;refine X.gY rfl ?_;refine X.lk ?_
                      refine X.bif (b:=(!x5.2.2.2)) (fun h48=>?_) (fun h48=>?_)
                      · refine X.gY h48 ?_;refine X.lk ?_;refine X.gY h48 ?_;refine X.lk ?_;refine X.gY h48 ?_;refine X.lk ?_;refine X.gY rfl ?_;refine X.pT h48 ?_;refine X.pF rfl ?_;refine X.nil ?_;exact ES.jn ih_k2 (!decide (((atD ((atD t1.Frames i1).Code) k1).Imm)=0)) (St.le_sub ⟨rfl,rfl,rfl,rfl,trivial⟩ ⟨rfl,rfl,rfl,trivial⟩ rfl)
                      · refine X.gN h48 ?_;refine X.gN h48 ?_;refine X.gN h48 ?_;refine X.gY rfl ?_;refine X.pF h48 ?_;refine X.pF rfl ?_;refine X.nil ?_;exact ES.jn ih_k2 false (St.le_sub ⟨rfl,rfl,rfl,rfl,trivial⟩ ⟨rfl,rfl,rfl,trivial⟩ rfl)
set_option maxHeartbeats 4000000 in
theorem r10_CheckFrame_ok (t1:ATarget) (i1:Int):∀r:Int,r10_CheckFrame t1 i1 r→FCalls Tryz.prog 72 [] [.agg ((row_ATarget t1).map .v),.c (.v (.int .i64 i1))] (.w (.c (.v (.int .i64 r)))) [] []:=by
  refine fnS 64 ?_;unfold r10_CheckFrame;refine VS.seq (VS.region ?_);refine X.box 0 ?_;refine X.lk ?_;refine X.nil (ES.seq (VS.seq (VS.seq (VS.drawn ?_))));(iterate 3 refine X.lk ?_);refine X.lenT ?_;refine X.call true [] [] (r10_within_ok i1 (t1.Frames.length:Int)) (fun x1=>?_);(iterate 2 refine X.lk ?_)
  refine X.bif (b:=(!x1)) (fun h1=>?_) (fun h1=>?_)
  · refine X.gN h1 ?_;refine X.gN h1 ?_;refine X.gN h1 ?_;refine X.gN h1 ?_;refine X.gN h1 ?_;refine X.gN h1 ?_;refine X.gN h1 ?_;refine X.gN h1 ?_;refine X.pT h1 ?_;refine X.nilD ?_ (by kernel_rfl);refine ES.seq ?_;refine VS.condT rfl ?_;refine VS.seq (VS.region ?_);refine X.lk ?_;refine X.nil (ES.seq (VS.ret (ES.thnR ?_)));refine ES.ret ?_;exact Ret.clo [.c (.v (.int .i64 4))] ⟨rfl,trivial⟩ trivial
  · refine X.gY h1 ?_;refine X.lk ?_;refine X.gY h1 ?_;refine X.lk ?_;refine X.gY h1 ?_;refine X.lk ?_;refine X.gY h1 ?_;refine X.lk ?_;refine X.gY h1 ?_;refine X.idxT (fun h2=>?_);refine X.gY h1 ?_;refine X.lk ?_;refine X.gY h1 ?_;refine X.call true [] [] (r10_shape_ok t1 (atD t1.Frames i1)) (fun x2=>?_);refine X.gY h1 ?_;refine X.lk ?_;refine X.pF h1 ?_;refine X.nilD ?_ (by kernel_rfl);refine ES.seq ?_
    refine VS.cond (fun h3=>?_) (fun h3=>?_)
    · refine VS.seq (VS.region ?_);refine X.lk ?_;refine X.nil (ES.seq (VS.ret (ES.thnR ?_)));refine ES.ret ?_;exact Ret.clo [.c (.v (.int .i64 4))] ⟨rfl,trivial⟩ trivial
    · refine VS.skip (ES.seq (VS.seq (VS.region ?_)));(iterate 3 refine X.lk ?_);refine X.idxT (fun h4=>?_);refine X.lk ?_;refine X.alloc 1 ?_;refine X.st ?_;refine X.nil (ES.seq (VS.seq (VS.seq (VS.region ?_))));(iterate 2 refine X.lk ?_);refine X.lenT ?_;refine X.lk ?_;refine X.nil (ES.seq ?_)
      refine VS.cond (fun h5=>?_) (fun h5=>?_)
      · refine VS.seq (VS.region ?_);refine X.lk ?_;refine X.nil (ES.seq (VS.ret (ES.thnR ?_)));refine ES.ret ?_;exact Ret.clo [.c (.v (.int .i64 3))] ⟨rfl,trivial⟩ trivial
      · refine VS.skip (ES.seq (VS.seq (VS.seq (VS.region ?_))));refine X.lk ?_;refine X.nil (ES.seq (VS.block ?_));refine VS.loop (fun (k1:Int)=>(⟨[(1,.w (.c (.v (.int .i64 i1)))),(2,.w (.c (.ptr 0 0 0))),(5,.w (.c (.ptr 1 0 0))),(6,.w (.c (.v (.int .i64 k1))))],[some (.bx 37 ((row_ATarget t1).map .v)),some (.bx 76 ((row_AFrame (atD t1.Frames i1)).map .v))]⟩:St)) (j0:=0) (St.le_sub ⟨rfl,rfl,rfl,rfl,trivial⟩ ⟨rfl,rfl,trivial⟩ rfl) ?_;rintro n1 again1 ih_again1 k1;refine VS.seq (VS.seq (VS.region ?_));(iterate 3 refine X.lk ?_);refine X.lenT ?_;refine X.lk ?_;refine X.nil (ES.seq ?_)
        refine VS.cond (fun h6=>?_) (fun h6=>?_)
        · refine VS.skip (ES.seq (VS.seq (VS.block (VS.seq (VS.region ?_)))));(iterate 3 refine X.lk ?_);refine X.call true [] [] (r10_CheckInstr_ok t1 i1 k1) (fun x3=>?_);refine X.lk ?_;refine X.nil (ES.seq (VS.seq (VS.region ?_)));(iterate 2 refine X.lk ?_);refine X.nil (ES.seq ?_)
          refine VS.cond (fun h7=>?_) (fun h7=>?_)
          · refine VS.seq (VS.region ?_);(iterate 2 refine X.lk ?_);refine X.nil (ES.seq (VS.ret (ES.blkR (ES.thnR (ES.thnR (ES.blkR (ES.thnR ?_)))))));refine ES.ret ?_;exact Ret.clo [.c (.v (.int .i64 x3))] ⟨rfl,trivial⟩ trivial
          · refine VS.skip (ES.blkN (ES.seq (VS.region ?_)));refine X.lk ?_;refine X.ck fun h8=>?_;refine X.lk ?_;refine X.nil ?_;exact ES.go ih_again1 (k1+1) (St.le_sub ⟨rfl,rfl,rfl,rfl,trivial⟩ ⟨rfl,rfl,trivial⟩ rfl)
        · refine VS.exit (ES.thnE (ES.thnE (ES.blkE (ES.seq (VS.seq (VS.seq (VS.region ?_)))))));(iterate 2 refine X.lk ?_);refine X.lenT ?_;(iterate 2 refine X.lk ?_)
          refine X.bif (b:=(decide ((((atD t1.Frames i1).Code).length:Int)=0))) (fun h9=>?_) (fun h9=>?_)
          · refine X.gN h9 ?_;refine X.gN h9 ?_;refine X.gN h9 ?_;refine X.gN h9 ?_;refine X.gN h9 ?_;refine X.gN h9 ?_;refine X.gN h9 ?_;refine X.gN h9 ?_;refine X.gN h9 ?_;refine X.gN h9 ?_;refine X.gN h9 ?_;refine X.pT h9 ?_;refine X.nil (ES.seq ?_);refine VS.condT rfl ?_;refine VS.seq (VS.region ?_);refine X.lk ?_;refine X.nil (ES.seq (VS.ret (ES.thnR ?_)));refine ES.ret ?_;exact Ret.clo [.c (.v (.int .i64 6))] ⟨rfl,trivial⟩ trivial
          · refine X.gY h9 ?_;refine X.lk ?_;refine X.gY h9 ?_;refine X.lk ?_;refine X.gY h9 ?_;refine X.lk ?_;refine X.gY h9 ?_;refine X.lk ?_;refine X.gY h9 ?_;refine X.lenT ?_;refine X.gY h9 ?_;refine X.ck fun h10=>?_;refine X.gY h9 ?_;refine X.idxT (fun h11=>?_);refine X.gY h9 ?_;refine X.lk ?_;refine X.gY h9 ?_;refine X.lk ?_;refine X.gY h9 ?_;refine X.call true [] [] (r05_Terminator_ok ((atD ((atD t1.Frames i1).Code) ((((atD t1.Frames i1).Code).length:Int)- 1)).Op)) (fun x4=>?_);refine X.gY h9 ?_;refine X.lk ?_;refine X.pF h9 ?_;refine X.nil (ES.seq ?_)
            refine VS.cond (fun h12=>?_) (fun h12=>?_)
            · refine VS.seq (VS.region ?_);refine X.lk ?_;refine X.nil (ES.seq (VS.ret (ES.thnR ?_)));refine ES.ret ?_;exact Ret.clo [.c (.v (.int .i64 6))] ⟨rfl,trivial⟩ trivial
            · refine VS.skip (ES.seq (VS.seq (VS.region ?_)));refine X.lk ?_;refine X.nil (ES.seq (VS.ret ?_));refine ES.ret ?_;exact Ret.clo [.c (.v (.int .i64 0))] ⟨rfl,trivial⟩ trivial
set_option maxHeartbeats 4000000 in
theorem r10_calls_ok (t1:ATarget) (f1:AFrame):∀r:Bool,r10_calls t1 f1 r→FCalls Tryz.prog 73 [] [.agg ((row_ATarget t1).map .v),.agg ((row_AFrame f1).map .v)] (.w (.c (.v (.bool r)))) [] []:=by
  refine fnS 37 ?_;unfold r10_calls;refine VS.seq (VS.region ?_);refine X.box 0 ?_;refine X.box 1 ?_;refine X.lk ?_;refine X.nil (ES.seq (VS.seq (VS.seq (VS.region ?_))));refine X.lk ?_;refine X.nil (ES.seq (VS.block ?_));refine VS.loop (fun (k1:Int)=>(⟨[(2,.w (.c (.ptr 0 0 0))),(3,.w (.c (.ptr 1 0 0))),(5,.w (.c (.v (.int .i64 k1))))],[some (.bx 37 ((row_ATarget t1).map .v)),some (.bx 76 ((row_AFrame f1).map .v))]⟩:St)) (j0:=0) (St.le_sub ⟨rfl,rfl,rfl,trivial⟩ ⟨rfl,rfl,trivial⟩ rfl) ?_;rintro n1 again1 ih_again1 k1;refine VS.seq (VS.seq (VS.region ?_));(iterate 3 refine X.lk ?_);refine X.lenT ?_;refine X.lk ?_;refine X.nil (ES.seq ?_)
  refine VS.cond (fun h1=>?_) (fun h1=>?_)
  · refine VS.skip (ES.seq (VS.seq (VS.block (VS.seq (VS.drawn ?_)))));(iterate 3 refine X.lk ?_);refine X.idxT (fun h2=>?_);(iterate 4 refine X.lk ?_)
    refine X.bif (b:=(decide (((atD f1.Code k1).Op)=22))) (fun h3=>?_) (fun h3=>?_)
    · refine X.gY h3 ?_;refine X.lk ?_;refine X.gY h3 ?_;refine X.lk ?_;refine X.gY h3 ?_;refine X.lk ?_;refine X.gY h3 ?_;refine X.lk ?_;refine X.gY h3 ?_;refine X.lk ?_;refine X.gY h3 ?_;refine X.idxT (fun h4=>?_);refine X.gY h3 ?_;refine X.lk ?_;refine X.gY h3 ?_;refine X.lk ?_;refine X.gY h3 ?_;refine X.idxT (fun h5=>?_);refine X.gY h3 ?_;refine X.lk ?_;refine X.gY h3 ?_;refine X.lk ?_;refine X.gY h3 ?_;refine X.ck fun h6=>?_;refine X.gY h3 ?_;refine X.lk ?_;refine X.gY h3 ?_;refine X.lk ?_;refine X.gY h3 ?_;refine X.lk ?_;refine X.pT h3 ?_;refine X.nilD ?_ (by kernel_rfl);refine ES.seq ?_
      refine VS.cond (fun h7=>?_) (fun h7=>?_)
      · refine VS.seq (VS.region ?_);refine X.lk ?_;refine X.nil (ES.seq (VS.ret (ES.blkR (ES.thnR (ES.thnR (ES.blkR (ES.thnR ?_)))))));refine ES.ret ?_;exact Ret.clo [.c (.v (.bool false))] ⟨rfl,trivial⟩ trivial
      · refine VS.skip (ES.blkN (ES.seq (VS.region ?_)));refine X.lk ?_;refine X.ck fun h8=>?_;refine X.lk ?_;refine X.nil ?_;exact ES.go ih_again1 (k1+1) (St.le_sub ⟨rfl,rfl,rfl,trivial⟩ ⟨rfl,rfl,trivial⟩ rfl)
    · refine X.gN h3 ?_;refine X.gN h3 ?_;refine X.gN h3 ?_;refine X.gN h3 ?_;refine X.gN h3 ?_;refine X.gN h3 ?_;refine X.gN h3 ?_;refine X.gN h3 ?_;refine X.gN h3 ?_;refine X.gN h3 ?_;refine X.gN h3 ?_;refine X.gN h3 ?_;refine X.gN h3 ?_;refine X.gN h3 ?_;refine X.gN h3 ?_;refine X.pF h3 ?_;refine X.nilD ?_ (by kernel_rfl);refine ES.seq ?_;refine VS.condF rfl ?_;refine VS.skip (ES.blkN (ES.seq (VS.region ?_)));refine X.lk ?_;refine X.ck fun h9=>?_;refine X.lk ?_;refine X.nil ?_;exact ES.go ih_again1 (k1+1) (St.le_sub ⟨rfl,rfl,rfl,trivial⟩ ⟨rfl,rfl,trivial⟩ rfl)
  · refine VS.exit (ES.thnE (ES.thnE (ES.blkE (ES.seq (VS.seq (VS.region ?_))))));refine X.lk ?_;refine X.nil (ES.seq (VS.ret ?_));refine ES.ret ?_;exact Ret.clo [.c (.v (.bool true))] ⟨rfl,trivial⟩ trivial
end Go.Proofs.YtgbkhjllbgmdcaaGreat.Q
