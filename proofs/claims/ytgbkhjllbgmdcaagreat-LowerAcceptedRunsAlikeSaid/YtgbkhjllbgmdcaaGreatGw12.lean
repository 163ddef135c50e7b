/- Walks of functions: the code does what the lifted text says (written by a program). -/
import Derived.Test.YtgbkhjllbgmdcaaGreatLR
import Derived.Test.YtgbkhjllbgmdcaaGreatGw11
set_option linter.unusedVariables false
set_option linter.unusedSimpArgs false
set_option maxRecDepth 8000
namespace Go.Proofs.YtgbkhjllbgmdcaaGreat.Q
open Go.RowKit
set_option maxHeartbeats 4000000
theorem r10_Operands_ok (op1:Int):∀r:Bool × Bool × Bool × Bool,r10_Operands op1 r→FC 153 [] [cI op1] (.tup [.c (.v (.bool r.1)),.c (.v (.bool r.2.1)),.c (.v (.bool r.2.2.1)),.c (.v (.bool r.2.2.2))]) [] []:=by
 refine fnS 14 ?_;unfold r10_Operands;refine SR ?_;refine K3 ?_;refine K1 ?_;refine NV ?_;refine K1 ?_;refine X.call true [] [] (r10_memory_ok _) (fun x1=>?_);refine NS ?_
 refine VS.cond (fun h1=>?_) (fun h1=>?_)
 ·refine SR ?_;refine K3 ?_;refine K1 ?_;refine NU ?_;exact ES.ret (Ret.clo [_,_,_,_] ⟨rfl,rfl,rfl,rfl,trivial⟩ trivial)
 ·refine KR ?_;refine K1 ?_;refine X.call true [] [] (r05_Operands_ok _) (fun x2=>?_);refine K3 ?_;refine K3 ?_;refine K2 ?_;refine NT ?_;exact ES.ret (Ret.clo [_,_,_,_] ⟨rfl,rfl,rfl,rfl,trivial⟩ trivial)
theorem r10_named_ok (t1:ATarget) (x1:AInstr):∀r:Bool,r10_named t1 x1 r→FC 154 [] [.agg ((row_ATarget t1).map .v),.agg ((row_AInstr x1).map .v)] (.w (.c (.v (.bool r)))) [] []:=by
 refine fnS 72 ?_;unfold r10_named;refine SR ?_;refine X.box 0 ?_;refine X.box 1 ?_;refine K1 ?_;refine NR ?_;refine K1 ?_;refine NV ?_;refine K2 ?_;refine NO ?_
 refine VS.join (fun (x2:Bool)=>(⟨[(2,wP 0),(3,wP 1),(5,wI 8),(7,wI x1.Op),(8,.w (.c (.v (.bool x2))))],[some (.bx 37 ((row_ATarget t1).map .v)),some (.bx 62 ((row_AInstr x1).map .v))]⟩:St)) ?_ ?_
 ·rintro x2
  refine VS.cond (fun h1=>?_) (fun h1=>?_)
  ·refine SR ?_;refine K3 ?_;refine X.call true [] [] (r10_within_ok _ _) (fun x3=>?_);refine K1 ?_;refine X.nil (ES.seq (VS.ret (ES.blkR (ES.thnR ?_))));exact ES.ret R1
  ·refine VS.join (fun (x4:Bool)=>(⟨[(2,wP 0),(3,wP 1),(5,wI 8),(7,wI x1.Op),(18,.w (.c (.v (.bool x4))))],[some (.bx 37 ((row_ATarget t1).map .v)),some (.bx 62 ((row_AInstr x1).map .v))]⟩:St)) ?_ ?_
   ·rintro x4
    refine VS.cond (fun h2=>?_) (fun h2=>?_)
    ·refine SR ?_;refine K3 ?_;refine X.call true [] [] (r10_within_ok _ _) (fun x5=>?_);refine K1 ?_
     refine X.bif (fun h3=>?_) (fun h3=>?_)
     ·(iterate 3 refine X.gY h3 ?_;refine K1 ?_);refine X.gY h3 ?_;refine X.call true [] [] (r10_within_ok _ _) (fun x6=>?_);refine X.pT h3 ?_;refine K1 ?_;refine X.nil (ES.seq (VS.ret (ES.blkR (ES.thnR ?_))));exact ES.ret R1
     ·(iterate 4 refine X.gN h3 ?_);refine X.pF h3 ?_;refine K1 ?_;refine X.nil (ES.seq (VS.ret (ES.blkR (ES.thnR ?_))));exact ES.ret R1
    ·refine VS.join (fun (x7:Bool)=>(⟨[(2,wP 0),(3,wP 1),(5,wI 8),(7,wI x1.Op),(31,.w (.c (.v (.bool x7))))],[some (.bx 37 ((row_ATarget t1).map .v)),some (.bx 62 ((row_AInstr x1).map .v))]⟩:St)) ?_ ?_
     ·rintro x7
      refine VS.cond (fun h4=>?_) (fun h4=>?_)
      ·refine SR ?_;refine K3 ?_;refine X.call true [] [] (r10_within_ok _ _) (fun x8=>?_);refine K1 ?_
       refine X.bif (fun h5=>?_) (fun h5=>?_)
       ·(iterate 3 refine X.gY h5 ?_;refine K1 ?_);refine X.gY h5 ?_;refine X.call true [] [] (r10_within_ok _ _) (fun x9=>?_);refine X.pT h5 ?_;refine K1 ?_
        refine X.bif (fun h6=>?_) (fun h6=>?_)
        ·(iterate 3 refine X.gY h6 ?_;refine K1 ?_);refine X.gY h6 ?_;refine X.call true [] [] (r10_within_ok _ _) (fun x10=>?_);refine X.pT h6 ?_;refine K1 ?_;refine X.nil (ES.seq (VS.ret (ES.blkR (ES.thnR ?_))));exact ES.ret R1
        ·(iterate 4 refine X.gN h6 ?_);refine X.pF h6 ?_;refine K1 ?_;refine X.nil (ES.seq (VS.ret (ES.blkR (ES.thnR ?_))));exact ES.ret R1
       ·(iterate 4 refine X.gN h5 ?_);refine X.pF h5 ?_;refine K1 ?_;(iterate 4 refine X.gN rfl ?_);refine X.pF rfl ?_;refine K1 ?_;refine X.nil (ES.seq (VS.ret (ES.blkR (ES.thnR ?_))));exact ES.ret R1
      ·refine SR ?_;refine K2 ?_;refine NS ?_
       refine VS.cond (fun h7=>?_) (fun h7=>?_)
       ·refine SR ?_;refine K3 ?_;refine X.call true [] [] (r10_within_ok _ _) (fun x11=>?_);refine K1 ?_;refine X.nil (ES.seq (VS.ret (ES.blkR (ES.thnR ?_))));exact ES.ret R1
       ·refine SR ?_;refine K2 ?_;refine NS ?_
        refine VS.cond (fun h8=>?_) (fun h8=>?_)
        ·refine SR ?_;refine K3 ?_;refine K1 ?_;refine X.lenT ?_;refine X.call true [] [] (r10_within_ok _ _) (fun x12=>?_);refine K1 ?_;refine X.nil (ES.seq (VS.ret (ES.blkR (ES.thnR ?_))));exact ES.ret R1
        ·refine VS.skip (ES.blkN (ES.seq (VS.seq (VS.region ?_))));refine K1 ?_;refine NT ?_;exact ES.ret R1
     ·intro k3 ih_k3;refine SR ?_;refine K2 ?_;refine NS ?_
      refine VS.cond (fun h9=>?_) (fun h9=>?_)
      ·refine VS.skip ?_;exact JL ih_k3
      ·refine SR ?_;refine K2 ?_;refine NS ?_
       refine VS.cond (fun h10=>?_) (fun h10=>?_)
       ·refine VS.skip ?_;exact JL ih_k3
       ·refine SR ?_;refine K2 ?_;refine NS ?_
        refine VS.cond (fun h11=>?_) (fun h11=>?_)
        ·refine VS.skip ?_;exact JL ih_k3
        ·refine SR ?_;refine K2 ?_;refine NS ?_
         refine VS.cond (fun h12=>?_) (fun h12=>?_)
         ·refine VS.skip ?_;exact JL ih_k3
         ·refine SR ?_;refine K2 ?_;refine NS ?_
          refine VS.cond (fun h13=>?_) (fun h13=>?_)
          ·refine VS.skip ?_;exact JL ih_k3
          ·refine SR ?_;refine K2 ?_;refine NS ?_
           refine VS.cond (fun h14=>?_) (fun h14=>?_)
           ·refine VS.skip ?_;exact JL ih_k3
           ·refine SR ?_;refine K2 ?_;refine NS ?_
            refine VS.cond (fun h15=>?_) (fun h15=>?_)
            ·refine VS.skip ?_;exact JL ih_k3
            ·refine SR ?_;refine K2 ?_;refine NS ?_
             refine VS.cond (fun h16=>?_) (fun h16=>?_)
             ·refine VS.skip ?_;exact JL ih_k3
             ·refine SR ?_;refine K2 ?_;refine NS ?_
              refine VS.cond (fun h17=>?_) (fun h17=>?_)
              ·refine VS.skip ?_;exact JL ih_k3
              ·refine VS.region ?_;refine K2 ?_;refine X.nil ?_;exact JL ih_k3
   ·intro k2 ih_k2;refine SR ?_;refine K2 ?_;refine NS ?_
    refine VS.cond (fun h18=>?_) (fun h18=>?_)
    ·refine VS.skip ?_;exact JL ih_k2
    ·refine VS.region ?_;refine K2 ?_;refine X.nil ?_;exact JL ih_k2
 ·intro k1 ih_k1;refine SR ?_;refine K2 ?_;refine NS ?_
  refine VS.cond (fun h19=>?_) (fun h19=>?_)
  ·refine VS.skip ?_;exact JL ih_k1
  ·refine SR ?_;refine K2 ?_;refine NS ?_
   refine VS.cond (fun h20=>?_) (fun h20=>?_)
   ·refine VS.skip ?_;exact JL ih_k1
   ·refine SR ?_;refine K2 ?_;refine NS ?_
    refine VS.cond (fun h21=>?_) (fun h21=>?_)
    ·refine VS.skip ?_;exact JL ih_k1
    ·refine SR ?_;refine K2 ?_;refine NS ?_
     refine VS.cond (fun h22=>?_) (fun h22=>?_)
     ·refine VS.skip ?_;exact JL ih_k1
     ·refine VS.region ?_;refine K2 ?_;refine X.nil ?_;exact JL ih_k1
theorem r10_Reads_ok (f1:AFrame) (x1:AInstr):∀r:AInterval × Bool,r10_Reads f1 x1 r→FC 156 [] [.agg ((row_AFrame f1).map .v),.agg ((row_AInstr x1).map .v)] (.tup [.agg ((row_AInterval r.1).map .v),.c (.v (.bool r.2))]) [] []:=by
 refine fnS 20 ?_;unfold r10_Reads;refine SR ?_;refine X.box 0 ?_;refine X.box 1 ?_;refine X.alloc 2 ?_;refine K1 ?_;refine NV ?_;refine K3 ?_;refine K1 ?_
 refine X.bif (fun h1=>?_) (fun h1=>?_)
 ·(iterate 3 refine X.gN h1 ?_);refine X.pT h1 ?_;refine NS ?_;refine VS.condT rfl ?_;refine SR ?_;refine K3 ?_;refine K1 ?_;refine X.build ?_;refine X.st ?_;refine K1 ?_;refine NU ?_;exact ES.ret (Ret.clo [_,_] ⟨⟨_,_,_,_,_,_,rfl,rfl,fits rfl,rfl⟩,rfl,trivial⟩ trivial)
 ·(iterate 3 refine X.gY h1 ?_;refine K1 ?_);refine X.pF h1 ?_;refine NS ?_
  refine VS.cond (fun h2=>?_) (fun h2=>?_)
  ·refine SR ?_;refine K3 ?_;refine K1 ?_;refine X.build ?_;refine X.st ?_;refine K1 ?_;refine NU ?_;exact ES.ret (Ret.clo [_,_] ⟨⟨_,_,_,_,_,_,rfl,rfl,fits rfl,rfl⟩,rfl,trivial⟩ trivial)
  ·refine KR ?_;refine X.build ?_;refine X.st ?_;refine K1 ?_;refine NT ?_;exact ES.ret (Ret.clo [_,_] ⟨⟨_,_,_,_,_,_,rfl,rfl,fits rfl,rfl⟩,rfl,trivial⟩ trivial)
theorem r10_Writes_ok (f1:AFrame) (x1:AInstr):∀r:AInterval × Bool,r10_Writes f1 x1 r→FC 157 [] [.agg ((row_AFrame f1).map .v),.agg ((row_AInstr x1).map .v)] (.tup [.agg ((row_AInterval r.1).map .v),.c (.v (.bool r.2))]) [] []:=by
 refine fnS 20 ?_;unfold r10_Writes;refine SR ?_;refine X.box 0 ?_;refine X.box 1 ?_;refine X.alloc 2 ?_;refine K1 ?_;refine NV ?_;refine K3 ?_;refine K1 ?_
 refine X.bif (fun h1=>?_) (fun h1=>?_)
 ·(iterate 3 refine X.gN h1 ?_);refine X.pT h1 ?_;refine NS ?_;refine VS.condT rfl ?_;refine SR ?_;refine K3 ?_;refine K1 ?_;refine X.build ?_;refine X.st ?_;refine K1 ?_;refine NU ?_;exact ES.ret (Ret.clo [_,_] ⟨⟨_,_,_,_,_,_,rfl,rfl,fits rfl,rfl⟩,rfl,trivial⟩ trivial)
 ·(iterate 3 refine X.gY h1 ?_;refine K1 ?_);refine X.pF h1 ?_;refine NS ?_
  refine VS.cond (fun h2=>?_) (fun h2=>?_)
  ·refine SR ?_;refine K3 ?_;refine K1 ?_;refine X.build ?_;refine X.st ?_;refine K1 ?_;refine NU ?_;exact ES.ret (Ret.clo [_,_] ⟨⟨_,_,_,_,_,_,rfl,rfl,fits rfl,rfl⟩,rfl,trivial⟩ trivial)
  ·refine KR ?_;refine X.build ?_;refine X.st ?_;refine K1 ?_;refine NT ?_;exact ES.ret (Ret.clo [_,_] ⟨⟨_,_,_,_,_,_,rfl,rfl,fits rfl,rfl⟩,rfl,trivial⟩ trivial)
theorem r10_CheckInstr_ok (t1:ATarget) (i1:Int) (k1:Int):∀r:Int,r10_CheckInstr t1 i1 k1 r→FC 107 [] [.agg ((row_ATarget t1).map .v),cI i1,cI k1] (.w (cI r)) [] []:=by
 refine fnS 182 ?_;unfold r10_CheckInstr;refine SR ?_;refine X.box 0 ?_;refine K1 ?_;refine X.nil (ES.seq (VS.seq (VS.seq (VS.drawn ?_))));refine K3 ?_;refine X.lenT ?_;refine X.call true [] [] (r10_within_ok _ _) (fun x1=>?_);refine K2 ?_
 refine X.bif (fun h1=>?_) (fun h1=>?_)
 ·(iterate 10 refine X.gN h1 ?_);refine X.pT h1 ?_;refine K1 ?_;(iterate 8 refine X.gN rfl ?_);refine X.pT rfl ?_;refine ND ?_;refine ES.seq ?_;refine VS.condT rfl ?_;refine SR ?_;refine K1 ?_;refine NU ?_;exact ES.ret R1
 ·(iterate 4 refine X.gY h1 ?_;refine K1 ?_);refine X.gY h1 ?_;refine X.idxT (fun h2=>?_);(iterate 2 refine X.gY h1 ?_;refine K1 ?_);refine X.gY h1 ?_;refine X.lenT ?_;refine X.gY h1 ?_;refine X.call true [] [] (r10_within_ok _ _) (fun x2=>?_);refine X.gY h1 ?_;refine K1 ?_;refine X.pF h1 ?_;refine K1 ?_
  refine X.bif (fun h3=>?_) (fun h3=>?_)
  ·(iterate 8 refine X.gN h3 ?_);refine X.pT h3 ?_;refine ND ?_;refine ES.seq ?_;refine VS.condT rfl ?_;refine SR ?_;refine K1 ?_;refine NU ?_;exact ES.ret R1
  ·(iterate 4 refine X.gY h3 ?_;refine K1 ?_);refine X.gY h3 ?_;refine X.idxT (fun h4=>?_);refine X.gY h3 ?_;refine K1 ?_;refine X.gY h3 ?_;refine X.call true [] [] (r10_shape_ok _ _) (fun x3=>?_);refine X.gY h3 ?_;refine K1 ?_;refine X.pF h3 ?_;refine ND ?_;refine ES.seq ?_
   refine VS.cond (fun h5=>?_) (fun h5=>?_)
   ·refine SR ?_;refine K1 ?_;refine NU ?_;exact ES.ret R1
   ·refine KR ?_;refine K3 ?_;refine X.idxT (fun h6=>?_);refine K1 ?_;refine X.alloc 1 ?_;refine X.st ?_;refine NR ?_;refine K3 ?_;refine X.idxT (fun h7=>?_);refine K1 ?_;refine X.alloc 2 ?_;refine X.st ?_;refine NQ ?_;refine VS.weak (s':=(⟨[(3,wP 0),(7,wP 1),(8,wP 2)],[some (.bx 37 ((row_ATarget t1).map .v)),some (.bx 76 ((row_AFrame (atD t1.Frames i1)).map .v)),some (.bx 62 ((row_AInstr (atD ((atD t1.Frames i1).Code) k1)).map .v))]⟩:St)) (LSB rfl rfl rfl rfl) ?_;refine SR ?_;refine K2 ?_;refine X.call true [] [] (r10_within_ok _ _) (fun x4=>?_);refine K2 ?_
    refine X.bif (fun h8=>?_) (fun h8=>?_)
    ·(iterate 3 refine X.gN h8 ?_);refine X.pT h8 ?_;refine K1 ?_;(iterate 3 refine X.gN rfl ?_);refine X.pT rfl ?_;refine NS ?_;refine VS.condT rfl ?_;refine SR ?_;refine K1 ?_;refine NU ?_;exact ES.ret R1
    ·(iterate 3 refine X.gY h8 ?_;refine K1 ?_);refine X.pF h8 ?_;refine K1 ?_
     refine X.bif (fun h9=>?_) (fun h9=>?_)
     ·(iterate 3 refine X.gN h9 ?_);refine X.pT h9 ?_;refine NS ?_;refine VS.condT rfl ?_;refine SR ?_;refine K1 ?_;refine NU ?_;exact ES.ret R1
     ·(iterate 3 refine X.gY h9 ?_;refine K1 ?_);refine X.pF h9 ?_;refine NS ?_
      refine VS.cond (fun h10=>?_) (fun h10=>?_)
      ·refine SR ?_;refine K1 ?_;refine NU ?_;exact ES.ret R1
      ·refine KR ?_;refine K2 ?_;refine X.call true [] [] (r10_Operands_ok _) (fun x5=>?_);(iterate 3 refine K3 ?_);refine NQ ?_
       refine VS.join (fun (x6:Bool)=>(⟨[(3,wP 0),(7,wP 1),(8,wP 2),(110,.w (.c (.v (.bool x6))))],[some (.bx 37 ((row_ATarget t1).map .v)),some (.bx 76 ((row_AFrame (atD t1.Frames i1)).map .v)),some (.bx 62 ((row_AInstr (atD ((atD t1.Frames i1).Code) k1)).map .v))]⟩:St)) ?_ ?_
       ·rintro x6
        refine VS.cond (fun h11=>?_) (fun h11=>?_)
        ·refine SR ?_;refine K1 ?_;refine NU ?_;exact ES.ret R1
        ·refine VS.skip (ES.seq (VS.seq (VS.seq (VS.region ?_))));refine K2 ?_;refine X.call true [] [] (r10_named_ok _ _) (fun x7=>?_);refine K1 ?_;refine NS ?_
         refine VS.cond (fun h12=>?_) (fun h12=>?_)
         ·refine SR ?_;refine K1 ?_;refine NU ?_;exact ES.ret R1
         ·refine KS ?_
          refine VS.join (fun (_:Unit)=>(⟨[(7,wP 0),(8,wP 1)],[some (.bx 76 ((row_AFrame (atD t1.Frames i1)).map .v)),some (.bx 62 ((row_AInstr (atD ((atD t1.Frames i1).Code) k1)).map .v))]⟩:St)) ?_ ?_
          ·rintro ⟨⟩
           refine VS.join (fun (_:Unit)=>(⟨[(7,wP 0),(8,wP 1)],[some (.bx 76 ((row_AFrame (atD t1.Frames i1)).map .v)),some (.bx 62 ((row_AInstr (atD ((atD t1.Frames i1).Code) k1)).map .v))]⟩:St)) ?_ ?_
           ·rintro ⟨⟩
            refine VS.join (fun (_:Unit)=>(⟨[(7,wP 0),(8,wP 1)],[some (.bx 76 ((row_AFrame (atD t1.Frames i1)).map .v)),some (.bx 62 ((row_AInstr (atD ((atD t1.Frames i1).Code) k1)).map .v))]⟩:St)) ?_ ?_
            ·rintro ⟨⟩;refine SS ?_;refine K3 ?_;refine K1 ?_
             refine X.bif (fun h13=>?_) (fun h13=>?_)
             ·(iterate 4 refine X.gY h13 ?_;refine K1 ?_);refine X.gY h13 ?_;refine X.lenT ?_;refine X.gY h13 ?_;refine X.call true [] [] (r10_within_ok _ _) (fun x8=>?_);refine X.gY h13 ?_;refine K1 ?_;refine X.pT h13 ?_;refine K1 ?_
              refine X.bif (fun h14=>?_) (fun h14=>?_)
              ·(iterate 4 refine X.gN h14 ?_);(iterate 7 refine X.gU ?_);refine X.gN h14 ?_;refine X.pT h14 ?_;refine NS ?_;refine VS.condT rfl ?_;refine SR ?_;refine K1 ?_;refine NU ?_;exact ES.ret R1
              ·(iterate 4 refine X.gY h14 ?_;refine K1 ?_)
               refine X.bif (fun h15=>?_) (fun h15=>?_)
               ·(iterate 4 refine X.gY h15 ?_;refine K1 ?_);refine X.gY h15 ?_;refine X.lenT ?_;refine X.gY h15 ?_;refine X.call true [] [] (r10_within_ok _ _) (fun x9=>?_);refine X.gY h15 ?_;refine K1 ?_;refine X.gY h14 ?_;refine X.pT h15 ?_;refine X.pF h14 ?_;refine NS ?_
                refine VS.cond (fun h16=>?_) (fun h16=>?_)
                ·refine SR ?_;refine K1 ?_;refine NU ?_;exact ES.ret R1
                ·refine KR ?_;refine K1 ?_;refine NT ?_;exact ES.ret R1
               ·(iterate 7 refine X.gN h15 ?_);refine X.gY h14 ?_;refine X.pF h15 ?_;refine X.pF h14 ?_;refine NS ?_;refine VS.condF rfl ?_;refine KR ?_;refine K1 ?_;refine NT ?_;exact ES.ret R1
             ·(iterate 7 refine X.gN h13 ?_);refine X.pF h13 ?_;(iterate 4 refine K1 ?_;refine X.gY rfl ?_);refine K1 ?_
              refine X.bif (fun h17=>?_) (fun h17=>?_)
              ·(iterate 4 refine X.gY h17 ?_;refine K1 ?_);refine X.gY h17 ?_;refine X.lenT ?_;refine X.gY h17 ?_;refine X.call true [] [] (r10_within_ok _ _) (fun x10=>?_);refine X.gY h17 ?_;refine K1 ?_;refine X.gY rfl ?_;refine X.pT h17 ?_;refine X.pF rfl ?_;refine NS ?_
               refine VS.cond (fun h18=>?_) (fun h18=>?_)
               ·refine SR ?_;refine K1 ?_;refine NU ?_;exact ES.ret R1
               ·refine KR ?_;refine K1 ?_;refine NT ?_;exact ES.ret R1
              ·(iterate 7 refine X.gN h17 ?_);refine X.gY rfl ?_;refine X.pF h17 ?_;refine X.pF rfl ?_;refine NS ?_;refine VS.condF rfl ?_;refine KR ?_;refine K1 ?_;refine NT ?_;exact ES.ret R1
            ·intro k5 ih_k5;refine SR ?_;refine K2 ?_;refine X.call true [] [] (r10_Writes_ok _ _) (fun x11=>?_);refine K3 ?_;refine X.alloc 2 ?_;refine X.st ?_;refine K1 ?_;refine NR ?_;refine K2 ?_
             refine X.bif (fun h19=>?_) (fun h19=>?_)
             ·(iterate 3 refine X.gY h19 ?_;refine K1 ?_);refine X.gY h19 ?_;refine X.call true [] [] (r03_Inside_ok _ _) (fun x12=>?_);refine X.gY h19 ?_;refine K1 ?_;refine X.pT h19 ?_;refine NS ?_
              refine VS.cond (fun h20=>?_) (fun h20=>?_)
              ·refine SR ?_;refine K1 ?_;refine NU ?_;exact ES.ret R1
              ·refine VS.skip ?_;exact JL ih_k5
             ·(iterate 5 refine X.gN h19 ?_);refine X.pF h19 ?_;refine NS ?_;refine VS.condF rfl ?_;refine VS.skip ?_;exact JL ih_k5
           ·intro k4 ih_k4;refine SR ?_;refine K2 ?_;refine X.call true [] [] (r10_Reads_ok _ _) (fun x13=>?_);refine K3 ?_;refine X.alloc 2 ?_;refine X.st ?_;refine K1 ?_;refine NR ?_;refine K2 ?_
            refine X.bif (fun h21=>?_) (fun h21=>?_)
            ·(iterate 5 refine X.gY h21 ?_;refine K1 ?_);refine X.gY h21 ?_;refine X.ck fun h22=>?_;refine X.gY h21 ?_;refine X.ck fun h23=>?_;refine X.gY h21 ?_;refine X.call true [] [] (r03_Inside_ok _ _) (fun x14=>?_);refine X.gY h21 ?_;refine K1 ?_;refine X.pT h21 ?_;refine NS ?_
             refine VS.cond (fun h24=>?_) (fun h24=>?_)
             ·refine SR ?_;refine K1 ?_;refine NU ?_;exact ES.ret R1
             ·refine VS.skip ?_;exact JL ih_k4
            ·(iterate 9 refine X.gN h21 ?_);refine X.pF h21 ?_;refine NS ?_;refine VS.condF rfl ?_;refine VS.skip ?_;exact JL ih_k4
          ·intro k3 ih_k3;refine SR ?_;refine K2 ?_;refine X.call true [] [] (r10_memory_ok _) (fun x15=>?_);refine K1 ?_
           refine X.bif (fun h25=>?_) (fun h25=>?_)
           ·(iterate 2 refine X.gY h25 ?_;refine K1 ?_);refine X.gY h25 ?_;refine X.call true [] [] (r02_Size_ok _) (fun x16=>?_);refine X.gY h25 ?_;refine K1 ?_;refine X.pT h25 ?_;refine NS ?_
            refine VS.cond (fun h26=>?_) (fun h26=>?_)
            ·refine SR ?_;refine K1 ?_;refine NU ?_;exact ES.ret R1
            ·refine VS.skip ?_;exact ES.jn ih_k3 _ ((St.le_drop _ 0 (Nat.le_of_ble_eq_true rfl)).trans ((St.le_mvB _ 1 0 rfl rfl rfl rfl).trans ((St.le_mvB _ 2 1 rfl rfl rfl rfl).trans (LSB rfl rfl rfl rfl))))
           ·(iterate 4 refine X.gN h25 ?_);refine X.pF h25 ?_;refine NS ?_;refine VS.condF rfl ?_;refine VS.skip ?_;exact ES.jn ih_k3 _ ((St.le_drop _ 0 (Nat.le_of_ble_eq_true rfl)).trans ((St.le_mvB _ 1 0 rfl rfl rfl rfl).trans ((St.le_mvB _ 2 1 rfl rfl rfl rfl).trans (LSB rfl rfl rfl rfl))))
       ·intro k2 ih_k2;refine VS.region ?_;refine K3 ?_
        refine X.bif (fun h27=>?_) (fun h27=>?_)
        ·(iterate 3 refine X.gY h27 ?_;refine K1 ?_);refine X.pT h27 ?_;refine K1 ?_
         refine X.bif (fun h28=>?_) (fun h28=>?_)
         ·(iterate 3 refine X.gN h28 ?_);(iterate 3 refine X.gU ?_);refine X.gN h28 ?_;refine X.pT h28 ?_;refine K1 ?_;(iterate 3 refine X.gN rfl ?_);(iterate 3 refine X.gU ?_);refine X.gN rfl ?_;refine X.pT rfl ?_;refine K1 ?_;(iterate 3 refine X.gN rfl ?_);(iterate 3 refine X.gU ?_);refine X.gN rfl ?_;refine X.pT rfl ?_;refine X.nil ?_;exact JL ih_k2
         ·(iterate 3 refine X.gY h28 ?_;refine K1 ?_)
          refine X.bif (fun h29=>?_) (fun h29=>?_)
          ·(iterate 3 refine X.gY h29 ?_;refine K1 ?_);refine X.gY h28 ?_;refine X.pT h29 ?_;refine X.pF h28 ?_;refine K1 ?_
           refine X.bif (fun h30=>?_) (fun h30=>?_)
           ·(iterate 3 refine X.gN h30 ?_);(iterate 3 refine X.gU ?_);refine X.gN h30 ?_;refine X.pT h30 ?_;refine K1 ?_;(iterate 3 refine X.gN rfl ?_);(iterate 3 refine X.gU ?_);refine X.gN rfl ?_;refine X.pT rfl ?_;refine X.nil ?_;exact JL ih_k2
           ·(iterate 3 refine X.gY h30 ?_;refine K1 ?_)
            refine X.bif (fun h31=>?_) (fun h31=>?_)
            ·(iterate 3 refine X.gY h31 ?_;refine K1 ?_);refine X.gY h30 ?_;refine X.pT h31 ?_;refine X.pF h30 ?_;refine K1 ?_
             refine X.bif (fun h32=>?_) (fun h32=>?_)
             ·(iterate 3 refine X.gN h32 ?_);(iterate 3 refine X.gU ?_);refine X.gN h32 ?_;refine X.pT h32 ?_;refine X.nil ?_;exact JL ih_k2
             ·(iterate 3 refine X.gY h32 ?_;refine K1 ?_)
              refine X.bif (fun h33=>?_) (fun h33=>?_)
              ·(iterate 3 refine X.gY h33 ?_;refine K1 ?_);refine X.gY h32 ?_;refine X.pT h33 ?_;refine X.pF h32 ?_;refine X.nil ?_;exact JL ih_k2
              ·(iterate 3 refine X.gN h33 ?_);refine X.gY h32 ?_;refine X.pF h33 ?_;refine X.pF h32 ?_;refine X.nil ?_;exact JL ih_k2
            ·(iterate 3 refine X.gN h31 ?_);refine X.gY h30 ?_;refine X.pF h31 ?_;refine X.pF h30 ?_;(iterate 3 refine K1 ?_;refine X.gY rfl ?_);refine K1 ?_
             refine X.bif (fun h34=>?_) (fun h34=>?_)
             ·(iterate 3 refine X.gY h34 ?_;refine K1 ?_);refine X.gY rfl ?_;refine X.pT h34 ?_;refine X.pF rfl ?_;refine X.nil ?_;exact JL ih_k2
             ·(iterate 3 refine X.gN h34 ?_);refine X.gY rfl ?_;refine X.pF h34 ?_;refine X.pF rfl ?_;refine X.nil ?_;exact JL ih_k2
          ·(iterate 3 refine X.gN h29 ?_);refine X.gY h28 ?_;refine X.pF h29 ?_;refine X.pF h28 ?_;(iterate 3 refine K1 ?_;refine X.gY rfl ?_);refine K1 ?_
           refine X.bif (fun h35=>?_) (fun h35=>?_)
           ·(iterate 3 refine X.gY h35 ?_;refine K1 ?_);refine X.gY rfl ?_;refine X.pT h35 ?_;refine X.pF rfl ?_;refine K1 ?_
            refine X.bif (fun h36=>?_) (fun h36=>?_)
            ·(iterate 3 refine X.gN h36 ?_);(iterate 3 refine X.gU ?_);refine X.gN h36 ?_;refine X.pT h36 ?_;refine X.nil ?_;exact JL ih_k2
            ·(iterate 3 refine X.gY h36 ?_;refine K1 ?_)
             refine X.bif (fun h37=>?_) (fun h37=>?_)
             ·(iterate 3 refine X.gY h37 ?_;refine K1 ?_);refine X.gY h36 ?_;refine X.pT h37 ?_;refine X.pF h36 ?_;refine X.nil ?_;exact JL ih_k2
             ·(iterate 3 refine X.gN h37 ?_);refine X.gY h36 ?_;refine X.pF h37 ?_;refine X.pF h36 ?_;refine X.nil ?_;exact JL ih_k2
           ·(iterate 3 refine X.gN h35 ?_);refine X.gY rfl ?_;refine X.pF h35 ?_;refine X.pF rfl ?_;(iterate 3 refine K1 ?_;refine X.gY rfl ?_);refine K1 ?_
            refine X.bif (fun h38=>?_) (fun h38=>?_)
            ·(iterate 3 refine X.gY h38 ?_;refine K1 ?_);refine X.gY rfl ?_;refine X.pT h38 ?_;refine X.pF rfl ?_;refine X.nil ?_;exact JL ih_k2
            ·(iterate 3 refine X.gN h38 ?_);refine X.gY rfl ?_;refine X.pF h38 ?_;refine X.pF rfl ?_;refine X.nil ?_;exact JL ih_k2
        ·(iterate 3 refine X.gN h27 ?_);refine X.pF h27 ?_;(iterate 3 refine K1 ?_;refine X.gY rfl ?_);refine K1 ?_
         refine X.bif (fun h39=>?_) (fun h39=>?_)
         ·(iterate 3 refine X.gY h39 ?_;refine K1 ?_);refine X.gY rfl ?_;refine X.pT h39 ?_;refine X.pF rfl ?_;refine K1 ?_
          refine X.bif (fun h40=>?_) (fun h40=>?_)
          ·(iterate 3 refine X.gN h40 ?_);(iterate 3 refine X.gU ?_);refine X.gN h40 ?_;refine X.pT h40 ?_;refine K1 ?_;(iterate 3 refine X.gN rfl ?_);(iterate 3 refine X.gU ?_);refine X.gN rfl ?_;refine X.pT rfl ?_;refine X.nil ?_;exact JL ih_k2
          ·(iterate 3 refine X.gY h40 ?_;refine K1 ?_)
           refine X.bif (fun h41=>?_) (fun h41=>?_)
           ·(iterate 3 refine X.gY h41 ?_;refine K1 ?_);refine X.gY h40 ?_;refine X.pT h41 ?_;refine X.pF h40 ?_;refine K1 ?_
            refine X.bif (fun h42=>?_) (fun h42=>?_)
            ·(iterate 3 refine X.gN h42 ?_);(iterate 3 refine X.gU ?_);refine X.gN h42 ?_;refine X.pT h42 ?_;refine X.nil ?_;exact JL ih_k2
            ·(iterate 3 refine X.gY h42 ?_;refine K1 ?_)
             refine X.bif (fun h43=>?_) (fun h43=>?_)
             ·(iterate 3 refine X.gY h43 ?_;refine K1 ?_);refine X.gY h42 ?_;refine X.pT h43 ?_;refine X.pF h42 ?_;refine X.nil ?_;exact JL ih_k2
             ·(iterate 3 refine X.gN h43 ?_);refine X.gY h42 ?_;refine X.pF h43 ?_;refine X.pF h42 ?_;refine X.nil ?_;exact JL ih_k2
           ·(iterate 3 refine X.gN h41 ?_);refine X.gY h40 ?_;refine X.pF h41 ?_;refine X.pF h40 ?_;(iterate 3 refine K1 ?_;refine X.gY rfl ?_);refine K1 ?_
            refine X.bif (fun h44=>?_) (fun h44=>?_)
            ·(iterate 3 refine X.gY h44 ?_;refine K1 ?_);refine X.gY rfl ?_;refine X.pT h44 ?_;refine X.pF rfl ?_;refine X.nil ?_;exact JL ih_k2
            ·(iterate 3 refine X.gN h44 ?_);refine X.gY rfl ?_;refine X.pF h44 ?_;refine X.pF rfl ?_;refine X.nil ?_;exact JL ih_k2
         ·(iterate 3 refine X.gN h39 ?_);refine X.gY rfl ?_;refine X.pF h39 ?_;refine X.pF rfl ?_;(iterate 3 refine K1 ?_;refine X.gY rfl ?_);refine K1 ?_
          refine X.bif (fun h45=>?_) (fun h45=>?_)
          ·(iterate 3 refine X.gY h45 ?_;refine K1 ?_);refine X.gY rfl ?_;refine X.pT h45 ?_;refine X.pF rfl ?_;refine K1 ?_
           refine X.bif (fun h46=>?_) (fun h46=>?_)
           ·(iterate 3 refine X.gN h46 ?_);(iterate 3 refine X.gU ?_);refine X.gN h46 ?_;refine X.pT h46 ?_;refine X.nil ?_;exact JL ih_k2
           ·(iterate 3 refine X.gY h46 ?_;refine K1 ?_)
            refine X.bif (fun h47=>?_) (fun h47=>?_)
            ·(iterate 3 refine X.gY h47 ?_;refine K1 ?_);refine X.gY h46 ?_;refine X.pT h47 ?_;refine X.pF h46 ?_;refine X.nil ?_;exact JL ih_k2
            ·(iterate 3 refine X.gN h47 ?_);refine X.gY h46 ?_;refine X.pF h47 ?_;refine X.pF h46 ?_;refine X.nil ?_;exact JL ih_k2
          ·(iterate 3 refine X.gN h45 ?_);refine X.gY rfl ?_;refine X.pF h45 ?_;refine X.pF rfl ?_;(iterate 3 refine K1 ?_;refine X.gY rfl ?_);refine K1 ?_
           refine X.bif (fun h48=>?_) (fun h48=>?_)
           ·(iterate 3 refine X.gY h48 ?_;refine K1 ?_);refine X.gY rfl ?_;refine X.pT h48 ?_;refine X.pF rfl ?_;refine X.nil ?_;exact JL ih_k2
           ·(iterate 3 refine X.gN h48 ?_);refine X.gY rfl ?_;refine X.pF h48 ?_;refine X.pF rfl ?_;refine X.nil ?_;exact JL ih_k2
theorem r10_CheckFrame_ok (t1:ATarget) (i1:Int):∀r:Int,r10_CheckFrame t1 i1 r→FC 72 [] [.agg ((row_ATarget t1).map .v),cI i1] (.w (cI r)) [] []:=by
 refine fnS 64 ?_;unfold r10_CheckFrame;refine SR ?_;refine X.box 0 ?_;refine K1 ?_;refine X.nil (ES.seq (VS.seq (VS.seq (VS.drawn ?_))));refine K3 ?_;refine X.lenT ?_;refine X.call true [] [] (r10_within_ok _ _) (fun x1=>?_);refine K2 ?_
 refine X.bif (fun h1=>?_) (fun h1=>?_)
 ·(iterate 8 refine X.gN h1 ?_);refine X.pT h1 ?_;refine ND ?_;refine ES.seq ?_;refine VS.condT rfl ?_;refine SR ?_;refine K1 ?_;refine NU ?_;exact ES.ret R1
 ·(iterate 4 refine X.gY h1 ?_;refine K1 ?_);refine X.gY h1 ?_;refine X.idxT (fun h2=>?_);refine X.gY h1 ?_;refine K1 ?_;refine X.gY h1 ?_;refine X.call true [] [] (r10_shape_ok _ _) (fun x2=>?_);refine X.gY h1 ?_;refine K1 ?_;refine X.pF h1 ?_;refine ND ?_;refine ES.seq ?_
  refine VS.cond (fun h3=>?_) (fun h3=>?_)
  ·refine SR ?_;refine K1 ?_;refine NU ?_;exact ES.ret R1
  ·refine KR ?_;refine K3 ?_;refine X.idxT (fun h4=>?_);refine K1 ?_;refine X.alloc 1 ?_;refine X.st ?_;refine NV ?_;refine K2 ?_;refine X.lenT ?_;refine K1 ?_;refine NS ?_
   refine VS.cond (fun h5=>?_) (fun h5=>?_)
   ·refine SR ?_;refine K1 ?_;refine NU ?_;exact ES.ret R1
   ·refine VS.skip (ES.seq (VS.seq (VS.seq (VS.region ?_))));refine K1 ?_;refine NO ?_;refine VS.loop (fun (k1:Int)=>(⟨[(1,wI i1),(2,wP 0),(5,wP 1),(6,wI k1)],[some (.bx 37 ((row_ATarget t1).map .v)),some (.bx 76 ((row_AFrame (atD t1.Frames i1)).map .v))]⟩:St)) (j0:=0) (LSB rfl rfl rfl rfl) ?_;rintro n1 again1 ih_again1 k1;refine SS ?_;refine K3 ?_;refine X.lenT ?_;refine K1 ?_;refine NS ?_
    refine VS.cond (fun h6=>?_) (fun h6=>?_)
    ·refine KW ?_;refine K3 ?_;refine X.call true [] [] (r10_CheckInstr_ok _ _ _) (fun x3=>?_);refine K1 ?_;refine NR ?_;refine K2 ?_;refine NS ?_
     refine VS.cond (fun h7=>?_) (fun h7=>?_)
     ·refine SR ?_;refine K2 ?_;refine X.nil (ES.seq (VS.ret (ES.blkR (ES.thnR (ES.thnR (ES.blkR (ES.thnR ?_)))))));exact ES.ret R1
     ·refine KB ?_;refine K1 ?_;refine X.ck fun h8=>?_;refine K1 ?_;refine X.nil ?_;exact GL ih_again1
    ·refine VS.exit (ES.thnE (ES.thnE (ES.blkE (ES.seq (VS.seq (VS.seq (VS.region ?_)))))));refine K2 ?_;refine X.lenT ?_;refine K2 ?_
     refine X.bif (fun h9=>?_) (fun h9=>?_)
     ·(iterate 11 refine X.gN h9 ?_);refine X.pT h9 ?_;refine NS ?_;refine VS.condT rfl ?_;refine SR ?_;refine K1 ?_;refine NU ?_;exact ES.ret R1
     ·(iterate 4 refine X.gY h9 ?_;refine K1 ?_);refine X.gY h9 ?_;refine X.lenT ?_;refine X.gY h9 ?_;refine X.ck fun h10=>?_;refine X.gY h9 ?_;refine X.idxT (fun h11=>?_);(iterate 2 refine X.gY h9 ?_;refine K1 ?_);refine X.gY h9 ?_;refine X.call true [] [] (r05_Terminator_ok _) (fun x4=>?_);refine X.gY h9 ?_;refine K1 ?_;refine X.pF h9 ?_;refine NS ?_
      refine VS.cond (fun h12=>?_) (fun h12=>?_)
      ·refine SR ?_;refine K1 ?_;refine NU ?_;exact ES.ret R1
      ·refine KR ?_;refine K1 ?_;refine NT ?_;exact ES.ret R1
theorem r10_calls_ok (t1:ATarget) (f1:AFrame):∀r:Bool,r10_calls t1 f1 r→FC 73 [] [.agg ((row_ATarget t1).map .v),.agg ((row_AFrame f1).map .v)] (.w (.c (.v (.bool r)))) [] []:=by
 refine fnS 37 ?_;unfold r10_calls;refine SR ?_;refine X.box 0 ?_;refine X.box 1 ?_;refine K1 ?_;refine NV ?_;refine K1 ?_;refine NO ?_;refine VS.loop (fun (k1:Int)=>(⟨[(2,wP 0),(3,wP 1),(5,wI k1)],[some (.bx 37 ((row_ATarget t1).map .v)),some (.bx 76 ((row_AFrame f1).map .v))]⟩:St)) (j0:=0) (LSB rfl rfl rfl rfl) ?_;rintro n1 again1 ih_again1 k1;refine SS ?_;refine K3 ?_;refine X.lenT ?_;refine K1 ?_;refine NS ?_
 refine VS.cond (fun h1=>?_) (fun h1=>?_)
 ·refine VS.skip (ES.seq (VS.seq (VS.block (VS.seq (VS.drawn ?_)))));refine K3 ?_;refine X.idxT (fun h2=>?_);refine K3 ?_;refine K1 ?_
  refine X.bif (fun h3=>?_) (fun h3=>?_)
  ·(iterate 5 refine X.gY h3 ?_;refine K1 ?_);refine X.gY h3 ?_;refine X.idxT (fun h4=>?_);(iterate 2 refine X.gY h3 ?_;refine K1 ?_);refine X.gY h3 ?_;refine X.idxT (fun h5=>?_);(iterate 2 refine X.gY h3 ?_;refine K1 ?_);refine X.gY h3 ?_;refine X.ck fun h6=>?_;(iterate 3 refine X.gY h3 ?_;refine K1 ?_);refine X.pT h3 ?_;refine ND ?_;refine ES.seq ?_
   refine VS.cond (fun h7=>?_) (fun h7=>?_)
   ·refine SR ?_;refine K1 ?_;refine X.nil (ES.seq (VS.ret (ES.blkR (ES.thnR (ES.thnR (ES.blkR (ES.thnR ?_)))))));exact ES.ret R1
   ·refine KB ?_;refine K1 ?_;refine X.ck fun h8=>?_;refine K1 ?_;refine X.nil ?_;exact GL ih_again1
  ·(iterate 15 refine X.gN h3 ?_);refine X.pF h3 ?_;refine ND ?_;refine ES.seq ?_;refine VS.condF rfl ?_;refine KB ?_;refine K1 ?_;refine X.ck fun h9=>?_;refine K1 ?_;refine X.nil ?_;exact GL ih_again1
 ·refine XE ?_;refine K1 ?_;refine NT ?_;exact ES.ret R1
end Go.Proofs.YtgbkhjllbgmdcaaGreat.Q
