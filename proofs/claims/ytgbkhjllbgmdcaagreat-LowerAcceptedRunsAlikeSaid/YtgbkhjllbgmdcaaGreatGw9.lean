/- Walks of functions: the code does what the lifted text says (written by a program). -/
import Derived.Test.YtgbkhjllbgmdcaaGreatLR
import Derived.Test.YtgbkhjllbgmdcaaGreatGw8
set_option linter.unusedVariables false
set_option linter.unusedSimpArgs false
set_option maxRecDepth 8000
namespace Go.Proofs.YtgbkhjllbgmdcaaGreat.Q
open Go.RowKit
set_option maxHeartbeats 4000000
theorem r05_Operands_ok (op1:Int):∀r:Bool × Bool × Bool × Bool,r05_Operands op1 r→FC 143 [] [cI op1] (.tup [.c (.v (.bool r.1)),.c (.v (.bool r.2.1)),.c (.v (.bool r.2.2.1)),.c (.v (.bool r.2.2.2))]) [] []:=by
 refine fnS 36 ?_;unfold r05_Operands;refine SR ?_;refine K3 ?_;refine K1 ?_;refine NV ?_;refine K1 ?_;refine X.nil (ES.seq (VS.block (VS.seq (VS.region ?_))));refine K2 ?_;refine NS ?_
 refine VS.cond (fun h1=>?_) (fun h1=>?_)
 ·refine SR ?_;refine K3 ?_;refine K1 ?_;refine X.nil (ES.seq (VS.ret (ES.blkR (ES.thnR ?_))));exact ES.ret (Ret.clo [_,_,_,_] ⟨rfl,rfl,rfl,rfl,trivial⟩ trivial)
 ·refine VS.join (fun (x1:Bool)=>(⟨[(6,wI op1),(9,.w (.c (.v (.bool x1))))],[]⟩:St)) ?_ ?_
  ·rintro x1
   refine VS.cond (fun h2=>?_) (fun h2=>?_)
   ·refine SR ?_;refine K3 ?_;refine K1 ?_;refine X.nil (ES.seq (VS.ret (ES.blkR (ES.thnR ?_))));exact ES.ret (Ret.clo [_,_,_,_] ⟨rfl,rfl,rfl,rfl,trivial⟩ trivial)
   ·refine VS.join (fun (x2:Bool)=>(⟨[(6,wI op1),(18,.w (.c (.v (.bool x2))))],[]⟩:St)) ?_ ?_
    ·rintro x2
     refine VS.cond (fun h3=>?_) (fun h3=>?_)
     ·refine SR ?_;refine K3 ?_;refine K1 ?_;refine X.nil (ES.seq (VS.ret (ES.blkR (ES.thnR ?_))));exact ES.ret (Ret.clo [_,_,_,_] ⟨rfl,rfl,rfl,rfl,trivial⟩ trivial)
     ·refine VS.join (fun (x3:Bool)=>(⟨[(6,wI op1),(29,.w (.c (.v (.bool x3))))],[]⟩:St)) ?_ ?_
      ·rintro x3
       refine VS.cond (fun h4=>?_) (fun h4=>?_)
       ·refine SR ?_;refine K3 ?_;refine K1 ?_;refine X.nil (ES.seq (VS.ret (ES.blkR (ES.thnR ?_))));exact ES.ret (Ret.clo [_,_,_,_] ⟨rfl,rfl,rfl,rfl,trivial⟩ trivial)
       ·refine SR ?_;refine K2 ?_;refine NS ?_
        refine VS.cond (fun h5=>?_) (fun h5=>?_)
        ·refine SR ?_;refine K3 ?_;refine K1 ?_;refine X.nil (ES.seq (VS.ret (ES.blkR (ES.thnR ?_))));exact ES.ret (Ret.clo [_,_,_,_] ⟨rfl,rfl,rfl,rfl,trivial⟩ trivial)
        ·refine VS.skip (ES.blkN (ES.seq (VS.seq (VS.region ?_))));refine K3 ?_;refine K1 ?_;refine NT ?_;exact ES.ret (Ret.clo [_,_,_,_] ⟨rfl,rfl,rfl,rfl,trivial⟩ trivial)
      ·intro k3 ih_k3;refine SR ?_;refine K2 ?_;refine NS ?_
       refine VS.cond (fun h6=>?_) (fun h6=>?_)
       ·refine VS.skip ?_;exact JL ih_k3
       ·refine SR ?_;refine K2 ?_;refine NS ?_
        refine VS.cond (fun h7=>?_) (fun h7=>?_)
        ·refine VS.skip ?_;exact JL ih_k3
        ·refine SR ?_;refine K2 ?_;refine NS ?_
         refine VS.cond (fun h8=>?_) (fun h8=>?_)
         ·refine VS.skip ?_;exact JL ih_k3
         ·refine VS.region ?_;refine K2 ?_;refine X.nil ?_;exact JL ih_k3
    ·intro k2 ih_k2;refine SR ?_;refine K2 ?_;refine NS ?_
     refine VS.cond (fun h9=>?_) (fun h9=>?_)
     ·refine VS.skip ?_;exact JL ih_k2
     ·refine SR ?_;refine K2 ?_;refine NS ?_
      refine VS.cond (fun h10=>?_) (fun h10=>?_)
      ·refine VS.skip ?_;exact JL ih_k2
      ·refine SR ?_;refine K2 ?_;refine NS ?_
       refine VS.cond (fun h11=>?_) (fun h11=>?_)
       ·refine VS.skip ?_;exact JL ih_k2
       ·refine SR ?_;refine K2 ?_;refine NS ?_
        refine VS.cond (fun h12=>?_) (fun h12=>?_)
        ·refine VS.skip ?_;exact JL ih_k2
        ·refine SR ?_;refine K2 ?_;refine NS ?_
         refine VS.cond (fun h13=>?_) (fun h13=>?_)
         ·refine VS.skip ?_;exact JL ih_k2
         ·refine SR ?_;refine K2 ?_;refine NS ?_
          refine VS.cond (fun h14=>?_) (fun h14=>?_)
          ·refine VS.skip ?_;exact JL ih_k2
          ·refine SR ?_;refine K2 ?_;refine NS ?_
           refine VS.cond (fun h15=>?_) (fun h15=>?_)
           ·refine VS.skip ?_;exact JL ih_k2
           ·refine SR ?_;refine K2 ?_;refine NS ?_
            refine VS.cond (fun h16=>?_) (fun h16=>?_)
            ·refine VS.skip ?_;exact JL ih_k2
            ·refine SR ?_;refine K2 ?_;refine NS ?_
             refine VS.cond (fun h17=>?_) (fun h17=>?_)
             ·refine VS.skip ?_;exact JL ih_k2
             ·refine VS.region ?_;refine K2 ?_;refine X.nil ?_;exact JL ih_k2
  ·intro k1 ih_k1;refine SR ?_;refine K2 ?_;refine NS ?_
   refine VS.cond (fun h18=>?_) (fun h18=>?_)
   ·refine VS.skip ?_;exact JL ih_k1
   ·refine SR ?_;refine K2 ?_;refine NS ?_
    refine VS.cond (fun h19=>?_) (fun h19=>?_)
    ·refine VS.skip ?_;exact JL ih_k1
    ·refine SR ?_;refine K2 ?_;refine NS ?_
     refine VS.cond (fun h20=>?_) (fun h20=>?_)
     ·refine VS.skip ?_;exact JL ih_k1
     ·refine SR ?_;refine K2 ?_;refine NS ?_
      refine VS.cond (fun h21=>?_) (fun h21=>?_)
      ·refine VS.skip ?_;exact JL ih_k1
      ·refine SR ?_;refine K2 ?_;refine NS ?_
       refine VS.cond (fun h22=>?_) (fun h22=>?_)
       ·refine VS.skip ?_;exact JL ih_k1
       ·refine SR ?_;refine K2 ?_;refine NS ?_
        refine VS.cond (fun h23=>?_) (fun h23=>?_)
        ·refine VS.skip ?_;exact JL ih_k1
        ·refine SR ?_;refine K2 ?_;refine NS ?_
         refine VS.cond (fun h24=>?_) (fun h24=>?_)
         ·refine VS.skip ?_;exact JL ih_k1
         ·refine VS.region ?_;refine K2 ?_;refine X.nil ?_;exact JL ih_k1
theorem r05_register_ok (n1:Int):∀r:Bool,r05_register n1 r→FC 169 [] [cI n1] (.w (.c (.v (.bool r)))) [] []:=by
 refine fnS 9 ?_;unfold r05_register;refine SR ?_;refine K1 ?_;refine NR ?_;refine K3 ?_
 refine X.bif (fun h1=>?_) (fun h1=>?_)
 ·(iterate 2 refine X.gY h1 ?_;refine K1 ?_);refine X.pT h1 ?_;refine K1 ?_;refine NT ?_;exact ES.ret R1
 ·(iterate 2 refine X.gN h1 ?_);refine X.pF h1 ?_;refine K1 ?_;refine NT ?_;exact ES.ret R1
theorem r05_operands_ok (p1:AProgram) (f1:AFunc) (x1:AInstr):∀r:Bool,r05_operands p1 f1 x1 r→FC 144 [] [.agg ((row_AProgram p1).map .v),.agg ((row_AFunc f1).map .v),.agg ((row_AInstr x1).map .v)] (.w (.c (.v (.bool r)))) [] []:=by
 refine fnS 128 ?_;unfold r05_operands;refine SR ?_;refine X.box 0 ?_;refine X.box 1 ?_;refine X.box 2 ?_;refine K1 ?_;refine NV ?_;refine K2 ?_;refine NO ?_
 refine VS.join (fun (x2:Bool)=>(⟨[(3,wP 0),(4,wP 1),(5,wP 2),(8,wI x1.Op),(9,.w (.c (.v (.bool x2))))],[some (.bx 28 ((row_AProgram p1).map .v)),some (.bx 60 ((row_AFunc f1).map .v)),some (.bx 62 ((row_AInstr x1).map .v))]⟩:St)) ?_ ?_
 ·rintro x2
  refine VS.cond (fun h1=>?_) (fun h1=>?_)
  ·refine SR ?_;refine K2 ?_;refine X.call true [] [] (r05_register_ok _) (fun x3=>?_);refine K1 ?_;refine X.nil (ES.seq (VS.ret (ES.blkR (ES.thnR ?_))));exact ES.ret R1
  ·refine VS.join (fun (x4:Bool)=>(⟨[(3,wP 0),(4,wP 1),(5,wP 2),(8,wI x1.Op),(16,.w (.c (.v (.bool x4))))],[some (.bx 28 ((row_AProgram p1).map .v)),some (.bx 60 ((row_AFunc f1).map .v)),some (.bx 62 ((row_AInstr x1).map .v))]⟩:St)) ?_ ?_
   ·rintro x4
    refine VS.cond (fun h2=>?_) (fun h2=>?_)
    ·refine SR ?_;refine K2 ?_;refine X.call true [] [] (r05_register_ok _) (fun x5=>?_);refine K1 ?_
     refine X.bif (fun h3=>?_) (fun h3=>?_)
     ·(iterate 2 refine X.gY h3 ?_;refine K1 ?_);refine X.gY h3 ?_;refine X.call true [] [] (r05_register_ok _) (fun x6=>?_);refine X.pT h3 ?_;refine K1 ?_;refine X.nil (ES.seq (VS.ret (ES.blkR (ES.thnR ?_))));exact ES.ret R1
     ·(iterate 3 refine X.gN h3 ?_);refine X.pF h3 ?_;refine K1 ?_;refine X.nil (ES.seq (VS.ret (ES.blkR (ES.thnR ?_))));exact ES.ret R1
    ·refine VS.join (fun (x7:Bool)=>(⟨[(3,wP 0),(4,wP 1),(5,wP 2),(8,wI x1.Op),(27,.w (.c (.v (.bool x7))))],[some (.bx 28 ((row_AProgram p1).map .v)),some (.bx 60 ((row_AFunc f1).map .v)),some (.bx 62 ((row_AInstr x1).map .v))]⟩:St)) ?_ ?_
     ·rintro x7
      refine VS.cond (fun h4=>?_) (fun h4=>?_)
      ·refine SR ?_;refine K2 ?_;refine X.call true [] [] (r05_register_ok _) (fun x8=>?_);refine K1 ?_
       refine X.bif (fun h5=>?_) (fun h5=>?_)
       ·(iterate 2 refine X.gY h5 ?_;refine K1 ?_);refine X.gY h5 ?_;refine X.call true [] [] (r05_register_ok _) (fun x9=>?_);refine X.pT h5 ?_;refine K1 ?_
        refine X.bif (fun h6=>?_) (fun h6=>?_)
        ·(iterate 2 refine X.gY h6 ?_;refine K1 ?_);refine X.gY h6 ?_;refine X.call true [] [] (r05_register_ok _) (fun x10=>?_);refine X.pT h6 ?_;refine K1 ?_;refine X.nil (ES.seq (VS.ret (ES.blkR (ES.thnR ?_))));exact ES.ret R1
        ·(iterate 3 refine X.gN h6 ?_);refine X.pF h6 ?_;refine K1 ?_;refine X.nil (ES.seq (VS.ret (ES.blkR (ES.thnR ?_))));exact ES.ret R1
       ·(iterate 3 refine X.gN h5 ?_);refine X.pF h5 ?_;refine K1 ?_;(iterate 3 refine X.gN rfl ?_);refine X.pF rfl ?_;refine K1 ?_;refine X.nil (ES.seq (VS.ret (ES.blkR (ES.thnR ?_))));exact ES.ret R1
      ·refine SR ?_;refine K2 ?_;refine NS ?_
       refine VS.cond (fun h7=>?_) (fun h7=>?_)
       ·refine SR ?_;refine K2 ?_;refine X.call true [] [] (r05_register_ok _) (fun x11=>?_);refine K1 ?_
        refine X.bif (fun h8=>?_) (fun h8=>?_)
        ·(iterate 4 refine X.gY h8 ?_;refine K1 ?_);refine X.gY h8 ?_;refine X.lenT ?_;refine X.gY h8 ?_;refine X.call true [] [] (r05_within_ok _ _) (fun x12=>?_);refine X.pT h8 ?_;refine K1 ?_;refine X.nil (ES.seq (VS.ret (ES.blkR (ES.thnR ?_))));exact ES.ret R1
        ·(iterate 6 refine X.gN h8 ?_);refine X.pF h8 ?_;refine K1 ?_;refine X.nil (ES.seq (VS.ret (ES.blkR (ES.thnR ?_))));exact ES.ret R1
       ·refine SR ?_;refine K2 ?_;refine NS ?_
        refine VS.cond (fun h9=>?_) (fun h9=>?_)
        ·refine SR ?_;refine K3 ?_;refine K1 ?_;refine X.lenT ?_;refine X.call true [] [] (r05_within_ok _ _) (fun x13=>?_);refine K1 ?_
         refine X.bif (fun h10=>?_) (fun h10=>?_)
         ·(iterate 2 refine X.gY h10 ?_;refine K1 ?_);refine X.gY h10 ?_;refine X.call true [] [] (r05_register_ok _) (fun x14=>?_);refine X.pT h10 ?_;refine K1 ?_;refine X.nil (ES.seq (VS.ret (ES.blkR (ES.thnR ?_))));exact ES.ret R1
         ·(iterate 3 refine X.gN h10 ?_);refine X.pF h10 ?_;refine K1 ?_;refine X.nil (ES.seq (VS.ret (ES.blkR (ES.thnR ?_))));exact ES.ret R1
        ·refine SR ?_;refine K2 ?_;refine NS ?_
         refine VS.cond (fun h11=>?_) (fun h11=>?_)
         ·refine SR ?_;refine K3 ?_;refine K1 ?_;refine X.lenT ?_;refine X.call true [] [] (r05_within_ok _ _) (fun x15=>?_);refine K1 ?_
          refine X.bif (fun h12=>?_) (fun h12=>?_)
          ·(iterate 4 refine X.gY h12 ?_;refine K1 ?_);refine X.gY h12 ?_;refine X.lenT ?_;refine X.gY h12 ?_;refine X.call true [] [] (r05_within_ok _ _) (fun x16=>?_);refine X.pT h12 ?_;refine K1 ?_;refine X.nil (ES.seq (VS.ret (ES.blkR (ES.thnR ?_))));exact ES.ret R1
          ·(iterate 6 refine X.gN h12 ?_);refine X.pF h12 ?_;refine K1 ?_;refine X.nil (ES.seq (VS.ret (ES.blkR (ES.thnR ?_))));exact ES.ret R1
         ·refine SR ?_;refine K2 ?_;refine NS ?_
          refine VS.cond (fun h13=>?_) (fun h13=>?_)
          ·refine SR ?_;refine K2 ?_;refine X.call true [] [] (r05_within_ok _ _) (fun x17=>?_);refine K1 ?_
           refine X.bif (fun h14=>?_) (fun h14=>?_)
           ·(iterate 2 refine X.gY h14 ?_;refine K1 ?_);refine X.gY h14 ?_;refine X.call true [] [] (r05_register_ok _) (fun x18=>?_);refine X.pT h14 ?_;refine K1 ?_;refine X.nil (ES.seq (VS.ret (ES.blkR (ES.thnR ?_))));exact ES.ret R1
           ·(iterate 3 refine X.gN h14 ?_);refine X.pF h14 ?_;refine K1 ?_;refine X.nil (ES.seq (VS.ret (ES.blkR (ES.thnR ?_))));exact ES.ret R1
          ·refine SR ?_;refine K2 ?_;refine NS ?_
           refine VS.cond (fun h15=>?_) (fun h15=>?_)
           ·refine SR ?_;refine K2 ?_;refine X.call true [] [] (r05_register_ok _) (fun x19=>?_);refine K1 ?_
            refine X.bif (fun h16=>?_) (fun h16=>?_)
            ·(iterate 4 refine X.gY h16 ?_;refine K1 ?_);refine X.gY h16 ?_;refine X.call true [] [] (r05_within_ok _ _) (fun x20=>?_);refine X.pT h16 ?_;refine K1 ?_;refine X.nil (ES.seq (VS.ret (ES.blkR (ES.thnR ?_))));exact ES.ret R1
            ·(iterate 5 refine X.gN h16 ?_);refine X.pF h16 ?_;refine K1 ?_;refine X.nil (ES.seq (VS.ret (ES.blkR (ES.thnR ?_))));exact ES.ret R1
           ·refine SR ?_;refine K2 ?_;refine NS ?_
            refine VS.cond (fun h17=>?_) (fun h17=>?_)
            ·refine SR ?_;refine K2 ?_;refine X.call true [] [] (r05_register_ok _) (fun x21=>?_);refine K1 ?_;refine X.nil (ES.seq (VS.ret (ES.blkR (ES.thnR ?_))));exact ES.ret R1
            ·refine SR ?_;refine K2 ?_;refine NS ?_
             refine VS.cond (fun h18=>?_) (fun h18=>?_)
             ·refine SR ?_;refine K3 ?_;refine K1 ?_;refine X.lenT ?_;refine X.call true [] [] (r05_within_ok _ _) (fun x22=>?_);refine K1 ?_;refine X.nil (ES.seq (VS.ret (ES.blkR (ES.thnR ?_))));exact ES.ret R1
             ·refine VS.skip (ES.blkN (ES.seq (VS.seq (VS.region ?_))));refine K1 ?_;refine NT ?_;exact ES.ret R1
     ·intro k3 ih_k3;refine SR ?_;refine K2 ?_;refine NS ?_
      refine VS.cond (fun h19=>?_) (fun h19=>?_)
      ·refine VS.skip ?_;exact JL ih_k3
      ·refine SR ?_;refine K2 ?_;refine NS ?_
       refine VS.cond (fun h20=>?_) (fun h20=>?_)
       ·refine VS.skip ?_;exact JL ih_k3
       ·refine SR ?_;refine K2 ?_;refine NS ?_
        refine VS.cond (fun h21=>?_) (fun h21=>?_)
        ·refine VS.skip ?_;exact JL ih_k3
        ·refine SR ?_;refine K2 ?_;refine NS ?_
         refine VS.cond (fun h22=>?_) (fun h22=>?_)
         ·refine VS.skip ?_;exact JL ih_k3
         ·refine SR ?_;refine K2 ?_;refine NS ?_
          refine VS.cond (fun h23=>?_) (fun h23=>?_)
          ·refine VS.skip ?_;exact JL ih_k3
          ·refine SR ?_;refine K2 ?_;refine NS ?_
           refine VS.cond (fun h24=>?_) (fun h24=>?_)
           ·refine VS.skip ?_;exact JL ih_k3
           ·refine SR ?_;refine K2 ?_;refine NS ?_
            refine VS.cond (fun h25=>?_) (fun h25=>?_)
            ·refine VS.skip ?_;exact JL ih_k3
            ·refine SR ?_;refine K2 ?_;refine NS ?_
             refine VS.cond (fun h26=>?_) (fun h26=>?_)
             ·refine VS.skip ?_;exact JL ih_k3
             ·refine SR ?_;refine K2 ?_;refine NS ?_
              refine VS.cond (fun h27=>?_) (fun h27=>?_)
              ·refine VS.skip ?_;exact JL ih_k3
              ·refine VS.region ?_;refine K2 ?_;refine X.nil ?_;exact JL ih_k3
   ·intro k2 ih_k2;refine SR ?_;refine K2 ?_;refine NS ?_
    refine VS.cond (fun h28=>?_) (fun h28=>?_)
    ·refine VS.skip ?_;exact JL ih_k2
    ·refine VS.region ?_;refine K2 ?_;refine X.nil ?_;exact JL ih_k2
 ·intro k1 ih_k1;refine SR ?_;refine K2 ?_;refine NS ?_
  refine VS.cond (fun h29=>?_) (fun h29=>?_)
  ·refine VS.skip ?_;exact JL ih_k1
  ·refine SR ?_;refine K2 ?_;refine NS ?_
   refine VS.cond (fun h30=>?_) (fun h30=>?_)
   ·refine VS.skip ?_;exact JL ih_k1
   ·refine VS.region ?_;refine K2 ?_;refine X.nil ?_;exact JL ih_k1
theorem r05_CheckInstr_ok (p1:AProgram) (i1:Int) (k1:Int):∀r:Int,r05_CheckInstr p1 i1 k1 r→FC 98 [] [.agg ((row_AProgram p1).map .v),cI i1,cI k1] (.w (cI r)) [] []:=by
 refine fnS 138 ?_;unfold r05_CheckInstr;refine SR ?_;refine X.box 0 ?_;refine K1 ?_;refine NV ?_;refine K3 ?_;refine X.lenT ?_;refine X.call true [] [] (r05_within_ok _ _) (fun x1=>?_);refine K2 ?_
 refine X.bif (fun h1=>?_) (fun h1=>?_)
 ·(iterate 10 refine X.gN h1 ?_);refine X.pT h1 ?_;refine NS ?_;refine VS.condT rfl ?_;refine SR ?_;refine K1 ?_;refine NU ?_;exact ES.ret R1
 ·(iterate 4 refine X.gY h1 ?_;refine K1 ?_);refine X.gY h1 ?_;refine X.idxT (fun h2=>?_);(iterate 2 refine X.gY h1 ?_;refine K1 ?_);refine X.gY h1 ?_;refine X.lenT ?_;refine X.gY h1 ?_;refine X.call true [] [] (r05_within_ok _ _) (fun x2=>?_);refine X.gY h1 ?_;refine K1 ?_;refine X.pF h1 ?_;refine NS ?_
  refine VS.cond (fun h3=>?_) (fun h3=>?_)
  ·refine SR ?_;refine K1 ?_;refine NU ?_;exact ES.ret R1
  ·refine KR ?_;refine K3 ?_;refine X.idxT (fun h4=>?_);refine K1 ?_;refine X.alloc 1 ?_;refine X.st ?_;refine NR ?_;refine K3 ?_;refine X.idxT (fun h5=>?_);refine K1 ?_;refine X.alloc 2 ?_;refine X.st ?_;refine NV ?_;refine K2 ?_;refine X.call true [] [] (r05_within_ok _ _) (fun x3=>?_);refine K1 ?_;refine NS ?_
   refine VS.cond (fun h6=>?_) (fun h6=>?_)
   ·refine SR ?_;refine K1 ?_;refine NU ?_;exact ES.ret R1
   ·refine KR ?_;refine K2 ?_;refine X.call true [] [] (r05_Operands_ok _) (fun x4=>?_);(iterate 3 refine K3 ?_);refine NQ ?_;refine VS.weak (s':=(⟨[(3,wP 0),(7,wP 1),(8,wP 2),(9,.w (.c (.v (.bool x4.1)))),(10,.w (.c (.v (.bool x4.2.1)))),(11,.w (.c (.v (.bool x4.2.2.1)))),(12,.w (.c (.v (.bool x4.2.2.2))))],[some (.bx 28 ((row_AProgram p1).map .v)),some (.bx 60 ((row_AFunc (atD p1.Funcs i1)).map .v)),some (.bx 62 ((row_AInstr (atD ((atD p1.Funcs i1).Code) k1)).map .v))]⟩:St)) (LSB rfl rfl rfl rfl) ?_
    refine VS.join (fun (x5:Bool)=>(⟨[(3,wP 0),(7,wP 1),(8,wP 2),(86,.w (.c (.v (.bool x5))))],[some (.bx 28 ((row_AProgram p1).map .v)),some (.bx 60 ((row_AFunc (atD p1.Funcs i1)).map .v)),some (.bx 62 ((row_AInstr (atD ((atD p1.Funcs i1).Code) k1)).map .v))]⟩:St)) ?_ ?_
    ·rintro x5
     refine VS.cond (fun h7=>?_) (fun h7=>?_)
     ·refine SR ?_;refine K1 ?_;refine NU ?_;exact ES.ret R1
     ·refine VS.skip (ES.seq (VS.seq (VS.seq (VS.region ?_))));refine K3 ?_;refine X.call true [] [] (r05_operands_ok _ _ _) (fun x6=>?_);refine K1 ?_;refine NS ?_
      refine VS.cond (fun h8=>?_) (fun h8=>?_)
      ·refine SR ?_;refine K1 ?_;refine NU ?_;exact ES.ret R1
      ·refine KS ?_
       refine VS.join (fun (_:Unit)=>(⟨[(7,wP 0),(8,wP 1)],[some (.bx 60 ((row_AFunc (atD p1.Funcs i1)).map .v)),some (.bx 62 ((row_AInstr (atD ((atD p1.Funcs i1).Code) k1)).map .v))]⟩:St)) ?_ ?_
       ·rintro ⟨⟩;refine SS ?_;refine K3 ?_;refine K1 ?_
        refine X.bif (fun h9=>?_) (fun h9=>?_)
        ·(iterate 4 refine X.gY h9 ?_;refine K1 ?_);refine X.gY h9 ?_;refine X.lenT ?_;refine X.gY h9 ?_;refine X.call true [] [] (r05_within_ok _ _) (fun x7=>?_);refine X.gY h9 ?_;refine K1 ?_;refine X.pT h9 ?_;refine K1 ?_
         refine X.bif (fun h10=>?_) (fun h10=>?_)
         ·(iterate 4 refine X.gN h10 ?_);(iterate 7 refine X.gU ?_);refine X.gN h10 ?_;refine X.pT h10 ?_;refine NS ?_;refine VS.condT rfl ?_;refine SR ?_;refine K1 ?_;refine NU ?_;exact ES.ret R1
         ·(iterate 4 refine X.gY h10 ?_;refine K1 ?_)
          refine X.bif (fun h11=>?_) (fun h11=>?_)
          ·(iterate 4 refine X.gY h11 ?_;refine K1 ?_);refine X.gY h11 ?_;refine X.lenT ?_;refine X.gY h11 ?_;refine X.call true [] [] (r05_within_ok _ _) (fun x8=>?_);refine X.gY h11 ?_;refine K1 ?_;refine X.gY h10 ?_;refine X.pT h11 ?_;refine X.pF h10 ?_;refine NS ?_
           refine VS.cond (fun h12=>?_) (fun h12=>?_)
           ·refine SR ?_;refine K1 ?_;refine NU ?_;exact ES.ret R1
           ·refine KR ?_;refine K1 ?_;refine NT ?_;exact ES.ret R1
          ·(iterate 7 refine X.gN h11 ?_);refine X.gY h10 ?_;refine X.pF h11 ?_;refine X.pF h10 ?_;refine NS ?_;refine VS.condF rfl ?_;refine KR ?_;refine K1 ?_;refine NT ?_;exact ES.ret R1
        ·(iterate 7 refine X.gN h9 ?_);refine X.pF h9 ?_;(iterate 4 refine K1 ?_;refine X.gY rfl ?_);refine K1 ?_
         refine X.bif (fun h13=>?_) (fun h13=>?_)
         ·(iterate 4 refine X.gY h13 ?_;refine K1 ?_);refine X.gY h13 ?_;refine X.lenT ?_;refine X.gY h13 ?_;refine X.call true [] [] (r05_within_ok _ _) (fun x9=>?_);refine X.gY h13 ?_;refine K1 ?_;refine X.gY rfl ?_;refine X.pT h13 ?_;refine X.pF rfl ?_;refine NS ?_
          refine VS.cond (fun h14=>?_) (fun h14=>?_)
          ·refine SR ?_;refine K1 ?_;refine NU ?_;exact ES.ret R1
          ·refine KR ?_;refine K1 ?_;refine NT ?_;exact ES.ret R1
         ·(iterate 7 refine X.gN h13 ?_);refine X.gY rfl ?_;refine X.pF h13 ?_;refine X.pF rfl ?_;refine NS ?_;refine VS.condF rfl ?_;refine KR ?_;refine K1 ?_;refine NT ?_;exact ES.ret R1
       ·intro k3 ih_k3;refine VS.seq (VS.drawn ?_);refine K3 ?_;refine K1 ?_
        refine X.bif (fun h15=>?_) (fun h15=>?_)
        ·(iterate 4 refine X.gY h15 ?_;refine K1 ?_);refine X.gY h15 ?_;refine X.idxT (fun h16=>?_);(iterate 6 refine X.gY h15 ?_;refine K1 ?_);refine X.gY h15 ?_;refine X.idxT (fun h17=>?_);(iterate 3 refine X.gY h15 ?_;refine K1 ?_);refine X.pT h15 ?_;refine ND ?_;refine ES.seq ?_
         refine VS.cond (fun h18=>?_) (fun h18=>?_)
         ·refine SR ?_;refine K1 ?_;refine NU ?_;exact ES.ret R1
         ·refine VS.skip ?_;exact ES.jn ih_k3 _ ((St.le_drop _ 0 (Nat.le_of_ble_eq_true rfl)).trans ((St.le_mvB _ 1 0 rfl rfl rfl rfl).trans ((St.le_mvB _ 2 1 rfl rfl rfl rfl).trans (LSB rfl rfl rfl rfl))))
        ·(iterate 15 refine X.gN h15 ?_);refine X.pF h15 ?_;refine ND ?_;refine ES.seq ?_;refine VS.condF rfl ?_;refine VS.skip ?_;exact ES.jn ih_k3 _ ((St.le_drop _ 0 (Nat.le_of_ble_eq_true rfl)).trans ((St.le_mvB _ 1 0 rfl rfl rfl rfl).trans ((St.le_mvB _ 2 1 rfl rfl rfl rfl).trans (LSB rfl rfl rfl rfl))))
    ·intro k2 ih_k2;refine VS.region ?_;refine K3 ?_
     refine X.bif (fun h19=>?_) (fun h19=>?_)
     ·(iterate 3 refine X.gY h19 ?_;refine K1 ?_);refine X.pT h19 ?_;refine K1 ?_
      refine X.bif (fun h20=>?_) (fun h20=>?_)
      ·(iterate 3 refine X.gN h20 ?_);(iterate 3 refine X.gU ?_);refine X.gN h20 ?_;refine X.pT h20 ?_;refine K1 ?_;(iterate 3 refine X.gN rfl ?_);(iterate 3 refine X.gU ?_);refine X.gN rfl ?_;refine X.pT rfl ?_;refine K1 ?_;(iterate 3 refine X.gN rfl ?_);(iterate 3 refine X.gU ?_);refine X.gN rfl ?_;refine X.pT rfl ?_;refine X.nil ?_;exact JL ih_k2
      ·(iterate 3 refine X.gY h20 ?_;refine K1 ?_)
       refine X.bif (fun h21=>?_) (fun h21=>?_)
       ·(iterate 3 refine X.gY h21 ?_;refine K1 ?_);refine X.gY h20 ?_;refine X.pT h21 ?_;refine X.pF h20 ?_;refine K1 ?_
        refine X.bif (fun h22=>?_) (fun h22=>?_)
        ·(iterate 3 refine X.gN h22 ?_);(iterate 3 refine X.gU ?_);refine X.gN h22 ?_;refine X.pT h22 ?_;refine K1 ?_;(iterate 3 refine X.gN rfl ?_);(iterate 3 refine X.gU ?_);refine X.gN rfl ?_;refine X.pT rfl ?_;refine X.nil ?_;exact JL ih_k2
        ·(iterate 3 refine X.gY h22 ?_;refine K1 ?_)
         refine X.bif (fun h23=>?_) (fun h23=>?_)
         ·(iterate 3 refine X.gY h23 ?_;refine K1 ?_);refine X.gY h22 ?_;refine X.pT h23 ?_;refine X.pF h22 ?_;refine K1 ?_
          refine X.bif (fun h24=>?_) (fun h24=>?_)
          ·(iterate 3 refine X.gN h24 ?_);(iterate 3 refine X.gU ?_);refine X.gN h24 ?_;refine X.pT h24 ?_;refine X.nil ?_;exact JL ih_k2
          ·(iterate 3 refine X.gY h24 ?_;refine K1 ?_)
           refine X.bif (fun h25=>?_) (fun h25=>?_)
           ·(iterate 3 refine X.gY h25 ?_;refine K1 ?_);refine X.gY h24 ?_;refine X.pT h25 ?_;refine X.pF h24 ?_;refine X.nil ?_;exact JL ih_k2
           ·(iterate 3 refine X.gN h25 ?_);refine X.gY h24 ?_;refine X.pF h25 ?_;refine X.pF h24 ?_;refine X.nil ?_;exact JL ih_k2
         ·(iterate 3 refine X.gN h23 ?_);refine X.gY h22 ?_;refine X.pF h23 ?_;refine X.pF h22 ?_;(iterate 3 refine K1 ?_;refine X.gY rfl ?_);refine K1 ?_
          refine X.bif (fun h26=>?_) (fun h26=>?_)
          ·(iterate 3 refine X.gY h26 ?_;refine K1 ?_);refine X.gY rfl ?_;refine X.pT h26 ?_;refine X.pF rfl ?_;refine X.nil ?_;exact JL ih_k2
          ·(iterate 3 refine X.gN h26 ?_);refine X.gY rfl ?_;refine X.pF h26 ?_;refine X.pF rfl ?_;refine X.nil ?_;exact JL ih_k2
       ·(iterate 3 refine X.gN h21 ?_);refine X.gY h20 ?_;refine X.pF h21 ?_;refine X.pF h20 ?_;(iterate 3 refine K1 ?_;refine X.gY rfl ?_);refine K1 ?_
        refine X.bif (fun h27=>?_) (fun h27=>?_)
        ·(iterate 3 refine X.gY h27 ?_;refine K1 ?_);refine X.gY rfl ?_;refine X.pT h27 ?_;refine X.pF rfl ?_;refine K1 ?_
         refine X.bif (fun h28=>?_) (fun h28=>?_)
         ·(iterate 3 refine X.gN h28 ?_);(iterate 3 refine X.gU ?_);refine X.gN h28 ?_;refine X.pT h28 ?_;refine X.nil ?_;exact JL ih_k2
         ·(iterate 3 refine X.gY h28 ?_;refine K1 ?_)
          refine X.bif (fun h29=>?_) (fun h29=>?_)
          ·(iterate 3 refine X.gY h29 ?_;refine K1 ?_);refine X.gY h28 ?_;refine X.pT h29 ?_;refine X.pF h28 ?_;refine X.nil ?_;exact JL ih_k2
          ·(iterate 3 refine X.gN h29 ?_);refine X.gY h28 ?_;refine X.pF h29 ?_;refine X.pF h28 ?_;refine X.nil ?_;exact JL ih_k2
        ·(iterate 3 refine X.gN h27 ?_);refine X.gY rfl ?_;refine X.pF h27 ?_;refine X.pF rfl ?_;(iterate 3 refine K1 ?_;refine X.gY rfl ?_);refine K1 ?_
         refine X.bif (fun h30=>?_) (fun h30=>?_)
         ·(iterate 3 refine X.gY h30 ?_;refine K1 ?_);refine X.gY rfl ?_;refine X.pT h30 ?_;refine X.pF rfl ?_;refine X.nil ?_;exact JL ih_k2
         ·(iterate 3 refine X.gN h30 ?_);refine X.gY rfl ?_;refine X.pF h30 ?_;refine X.pF rfl ?_;refine X.nil ?_;exact JL ih_k2
     ·(iterate 3 refine X.gN h19 ?_);refine X.pF h19 ?_;(iterate 3 refine K1 ?_;refine X.gY rfl ?_);refine K1 ?_
      refine X.bif (fun h31=>?_) (fun h31=>?_)
      ·(iterate 3 refine X.gY h31 ?_;refine K1 ?_);refine X.gY rfl ?_;refine X.pT h31 ?_;refine X.pF rfl ?_;refine K1 ?_
       refine X.bif (fun h32=>?_) (fun h32=>?_)
       ·(iterate 3 refine X.gN h32 ?_);(iterate 3 refine X.gU ?_);refine X.gN h32 ?_;refine X.pT h32 ?_;refine K1 ?_;(iterate 3 refine X.gN rfl ?_);(iterate 3 refine X.gU ?_);refine X.gN rfl ?_;refine X.pT rfl ?_;refine X.nil ?_;exact JL ih_k2
       ·(iterate 3 refine X.gY h32 ?_;refine K1 ?_)
        refine X.bif (fun h33=>?_) (fun h33=>?_)
        ·(iterate 3 refine X.gY h33 ?_;refine K1 ?_);refine X.gY h32 ?_;refine X.pT h33 ?_;refine X.pF h32 ?_;refine K1 ?_
         refine X.bif (fun h34=>?_) (fun h34=>?_)
         ·(iterate 3 refine X.gN h34 ?_);(iterate 3 refine X.gU ?_);refine X.gN h34 ?_;refine X.pT h34 ?_;refine X.nil ?_;exact JL ih_k2
         ·(iterate 3 refine X.gY h34 ?_;refine K1 ?_)
          refine X.bif (fun h35=>?_) (fun h35=>?_)
          ·(iterate 3 refine X.gY h35 ?_;refine K1 ?_);refine X.gY h34 ?_;refine X.pT h35 ?_;refine X.pF h34 ?_;refine X.nil ?_;exact JL ih_k2
          ·(iterate 3 refine X.gN h35 ?_);refine X.gY h34 ?_;refine X.pF h35 ?_;refine X.pF h34 ?_;refine X.nil ?_;exact JL ih_k2
        ·(iterate 3 refine X.gN h33 ?_);refine X.gY h32 ?_;refine X.pF h33 ?_;refine X.pF h32 ?_;(iterate 3 refine K1 ?_;refine X.gY rfl ?_);refine K1 ?_
         refine X.bif (fun h36=>?_) (fun h36=>?_)
         ·(iterate 3 refine X.gY h36 ?_;refine K1 ?_);refine X.gY rfl ?_;refine X.pT h36 ?_;refine X.pF rfl ?_;refine X.nil ?_;exact JL ih_k2
         ·(iterate 3 refine X.gN h36 ?_);refine X.gY rfl ?_;refine X.pF h36 ?_;refine X.pF rfl ?_;refine X.nil ?_;exact JL ih_k2
      ·(iterate 3 refine X.gN h31 ?_);refine X.gY rfl ?_;refine X.pF h31 ?_;refine X.pF rfl ?_;(iterate 3 refine K1 ?_;refine X.gY rfl ?_);refine K1 ?_
       refine X.bif (fun h37=>?_) (fun h37=>?_)
       ·(iterate 3 refine X.gY h37 ?_;refine K1 ?_);refine X.gY rfl ?_;refine X.pT h37 ?_;refine X.pF rfl ?_;refine K1 ?_
        refine X.bif (fun h38=>?_) (fun h38=>?_)
        ·(iterate 3 refine X.gN h38 ?_);(iterate 3 refine X.gU ?_);refine X.gN h38 ?_;refine X.pT h38 ?_;refine X.nil ?_;exact JL ih_k2
        ·(iterate 3 refine X.gY h38 ?_;refine K1 ?_)
         refine X.bif (fun h39=>?_) (fun h39=>?_)
         ·(iterate 3 refine X.gY h39 ?_;refine K1 ?_);refine X.gY h38 ?_;refine X.pT h39 ?_;refine X.pF h38 ?_;refine X.nil ?_;exact JL ih_k2
         ·(iterate 3 refine X.gN h39 ?_);refine X.gY h38 ?_;refine X.pF h39 ?_;refine X.pF h38 ?_;refine X.nil ?_;exact JL ih_k2
       ·(iterate 3 refine X.gN h37 ?_);refine X.gY rfl ?_;refine X.pF h37 ?_;refine X.pF rfl ?_;(iterate 3 refine K1 ?_;refine X.gY rfl ?_);refine K1 ?_
        refine X.bif (fun h40=>?_) (fun h40=>?_)
        ·(iterate 3 refine X.gY h40 ?_;refine K1 ?_);refine X.gY rfl ?_;refine X.pT h40 ?_;refine X.pF rfl ?_;refine X.nil ?_;exact JL ih_k2
        ·(iterate 3 refine X.gN h40 ?_);refine X.gY rfl ?_;refine X.pF h40 ?_;refine X.pF rfl ?_;refine X.nil ?_;exact JL ih_k2
theorem r05_Terminator_ok (op1:Int):∀r:Bool,r05_Terminator op1 r→FC 99 [] [cI op1] (.w (.c (.v (.bool r)))) [] []:=by
 refine fnS 13 ?_;unfold r05_Terminator;refine SR ?_;refine K1 ?_;refine NR ?_;refine K3 ?_
 refine X.bif (fun h1=>?_) (fun h1=>?_)
 ·(iterate 2 refine X.gN h1 ?_);refine X.pT h1 ?_;refine K1 ?_;(iterate 2 refine X.gN rfl ?_);refine X.pT rfl ?_;refine K1 ?_;refine NT ?_;exact ES.ret R1
 ·(iterate 2 refine X.gY h1 ?_;refine K1 ?_);refine X.pF h1 ?_;refine K1 ?_
  refine X.bif (fun h2=>?_) (fun h2=>?_)
  ·(iterate 2 refine X.gN h2 ?_);refine X.pT h2 ?_;refine K1 ?_;refine NT ?_;exact ES.ret R1
  ·(iterate 2 refine X.gY h2 ?_;refine K1 ?_);refine X.pF h2 ?_;refine K1 ?_;refine NT ?_;exact ES.ret R1
theorem r05_CheckFunc_ok (p1:AProgram) (i1:Int):∀r:Int,r05_CheckFunc p1 i1 r→FC 69 [] [.agg ((row_AProgram p1).map .v),cI i1] (.w (cI r)) [] []:=by
 refine fnS 69 ?_;unfold r05_CheckFunc;refine SR ?_;refine X.box 0 ?_;refine K1 ?_;refine NV ?_;refine K3 ?_;refine X.lenT ?_;refine X.call true [] [] (r05_within_ok _ _) (fun x1=>?_);refine K1 ?_;refine NS ?_
 refine VS.cond (fun h1=>?_) (fun h1=>?_)
 ·refine SR ?_;refine K1 ?_;refine NU ?_;exact ES.ret R1
 ·refine KR ?_;refine K3 ?_;refine X.idxT (fun h2=>?_);refine K1 ?_;refine X.alloc 1 ?_;refine X.st ?_;refine NV ?_;refine K2 ?_;refine X.lenT ?_;refine K1 ?_;refine NS ?_
  refine VS.cond (fun h3=>?_) (fun h3=>?_)
  ·refine SR ?_;refine K1 ?_;refine NU ?_;exact ES.ret R1
  ·refine VS.skip (ES.seq (VS.seq (VS.seq (VS.region ?_))));refine K2 ?_;refine X.call true [] [] (r03_Slots_ok _) (fun x2=>?_);refine K1 ?_;refine NR ?_;refine K2 ?_;refine NS ?_
   refine VS.cond (fun h4=>?_) (fun h4=>?_)
   ·refine SR ?_;refine K2 ?_;refine NU ?_;exact ES.ret R1
   ·refine VS.skip (ES.seq (VS.seq (VS.seq (VS.region ?_))));refine K3 ?_;refine K1 ?_
    refine X.bif (fun h5=>?_) (fun h5=>?_)
    ·(iterate 3 refine X.gN h5 ?_);refine X.pT h5 ?_;refine NS ?_;refine VS.condT rfl ?_;refine SR ?_;refine K1 ?_;refine NU ?_;exact ES.ret R1
    ·(iterate 3 refine X.gY h5 ?_;refine K1 ?_);refine X.pF h5 ?_;refine NS ?_
     refine VS.cond (fun h6=>?_) (fun h6=>?_)
     ·refine SR ?_;refine K1 ?_;refine NU ?_;exact ES.ret R1
     ·refine VS.skip (ES.seq (VS.seq (VS.seq (VS.region ?_))));refine K1 ?_;refine NO ?_;refine VS.loop (fun (k1:Int)=>(⟨[(1,wI i1),(2,wP 0),(5,wP 1),(7,wI k1)],[some (.bx 28 ((row_AProgram p1).map .v)),some (.bx 60 ((row_AFunc (atD p1.Funcs i1)).map .v))]⟩:St)) (j0:=0) (LSB rfl rfl rfl rfl) ?_;rintro n1 again1 ih_again1 k1;refine SS ?_;refine K3 ?_;refine X.lenT ?_;refine K1 ?_;refine NS ?_
      refine VS.cond (fun h7=>?_) (fun h7=>?_)
      ·refine KW ?_;refine K3 ?_;refine X.call true [] [] (r05_CheckInstr_ok _ _ _) (fun x3=>?_);refine K1 ?_;refine NR ?_;refine K2 ?_;refine NS ?_
       refine VS.cond (fun h8=>?_) (fun h8=>?_)
       ·refine SR ?_;refine K2 ?_;refine X.nil (ES.seq (VS.ret (ES.blkR (ES.thnR (ES.thnR (ES.blkR (ES.thnR ?_)))))));exact ES.ret R1
       ·refine KB ?_;refine K1 ?_;refine X.ck fun h9=>?_;refine K1 ?_;refine X.nil ?_;exact GL ih_again1
      ·refine VS.exit (ES.thnE (ES.thnE (ES.blkE (ES.seq (VS.seq (VS.seq (VS.region ?_)))))));refine K2 ?_;refine X.lenT ?_;refine K2 ?_
       refine X.bif (fun h10=>?_) (fun h10=>?_)
       ·(iterate 11 refine X.gN h10 ?_);refine X.pT h10 ?_;refine NS ?_;refine VS.condT rfl ?_;refine SR ?_;refine K1 ?_;refine NU ?_;exact ES.ret R1
       ·(iterate 4 refine X.gY h10 ?_;refine K1 ?_);refine X.gY h10 ?_;refine X.lenT ?_;refine X.gY h10 ?_;refine X.ck fun h11=>?_;refine X.gY h10 ?_;refine X.idxT (fun h12=>?_);(iterate 2 refine X.gY h10 ?_;refine K1 ?_);refine X.gY h10 ?_;refine X.call true [] [] (r05_Terminator_ok _) (fun x4=>?_);refine X.gY h10 ?_;refine K1 ?_;refine X.pF h10 ?_;refine NS ?_
        refine VS.cond (fun h13=>?_) (fun h13=>?_)
        ·refine SR ?_;refine K1 ?_;refine NU ?_;exact ES.ret R1
        ·refine KR ?_;refine K1 ?_;refine NT ?_;exact ES.ret R1
end Go.Proofs.YtgbkhjllbgmdcaaGreat.Q
