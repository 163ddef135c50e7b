/- Walks of functions: the code does what the lifted text says (written by a program). -/
import Derived.Test.YtgbkhjllbgmdcaaGreatLR
import Derived.Test.YtgbkhjllbgmdcaaGreatGw12
set_option linter.unusedVariables false
set_option linter.unusedSimpArgs false
set_option maxRecDepth 8000
namespace Go.Proofs.YtgbkhjllbgmdcaaGreat.Q
open Go.RowKit
set_option maxHeartbeats 4000000
theorem r10_Check_ok (t1:ATarget):∀r:Int,r10_Check t1 r→FC 43 [] [.agg ((row_ATarget t1).map .v)] (.w (cI r)) [] []:=by
 refine fnS 57 ?_;unfold r10_Check;refine SR ?_;refine X.box 0 ?_;refine K1 ?_;refine NV ?_;refine K2 ?_;refine X.lenT ?_;refine K1 ?_;refine NS ?_
 refine VS.cond (fun h1=>?_) (fun h1=>?_)
 ·refine SR ?_;refine K1 ?_;refine NU ?_;exact ES.ret R1
 ·refine VS.skip (ES.seq (VS.seq (VS.seq (VS.region ?_))));refine K2 ?_;refine X.lenT ?_;refine K1 ?_;refine NS ?_
  refine VS.cond (fun h2=>?_) (fun h2=>?_)
  ·refine SR ?_;refine K1 ?_;refine NU ?_;exact ES.ret R1
  ·refine VS.skip (ES.seq (VS.seq (VS.seq (VS.region ?_))));refine K2 ?_;refine X.call true [] [] (r03_Power_ok _) (fun x1=>?_);refine K2 ?_
   refine X.bif (fun h3=>?_) (fun h3=>?_)
   ·(iterate 3 refine X.gN h3 ?_);refine X.pT h3 ?_;refine NS ?_;refine VS.condT rfl ?_;refine SR ?_;refine K1 ?_;refine NU ?_;exact ES.ret R1
   ·(iterate 3 refine X.gY h3 ?_;refine K1 ?_);refine X.pF h3 ?_;refine NS ?_
    refine VS.cond (fun h4=>?_) (fun h4=>?_)
    ·refine SR ?_;refine K1 ?_;refine NU ?_;exact ES.ret R1
    ·refine VS.skip (ES.seq (VS.seq (VS.seq (VS.region ?_))));refine K2 ?_;refine X.idxT (fun h5=>?_);refine K3 ?_;refine NS ?_
     refine VS.cond (fun h6=>?_) (fun h6=>?_)
     ·refine SR ?_;refine K1 ?_;refine NU ?_;exact ES.ret R1
     ·refine VS.skip (ES.seq (VS.seq (VS.seq (VS.region ?_))));refine K1 ?_;refine NO ?_;refine VS.loop (fun (i1:Int)=>(⟨[(1,wP 0),(3,wI i1)],[some (.bx 37 ((row_ATarget t1).map .v))]⟩:St)) (j0:=0) (LSB rfl rfl rfl rfl) ?_;rintro n1 again1 ih_again1 i1;refine SS ?_;refine K3 ?_;refine X.lenT ?_;refine K1 ?_;refine NS ?_
      refine VS.cond (fun h7=>?_) (fun h7=>?_)
      ·refine KW ?_;refine K2 ?_;refine X.call true [] [] (r10_CheckFrame_ok _ _) (fun x2=>?_);refine K1 ?_;refine NR ?_;refine K2 ?_;refine NS ?_
       refine VS.cond (fun h8=>?_) (fun h8=>?_)
       ·refine SR ?_;refine K2 ?_;refine X.nil (ES.seq (VS.ret (ES.blkR (ES.thnR (ES.thnR (ES.blkR (ES.thnR ?_)))))));exact ES.ret R1
       ·refine KB ?_;refine K1 ?_;refine X.ck fun h9=>?_;refine K1 ?_;refine X.nil ?_;exact GL ih_again1
      ·refine VS.exit (ES.thnE (ES.thnE (ES.blkE (ES.seq (VS.seq (VS.seq (VS.region ?_)))))));refine K1 ?_;refine NO ?_;refine VS.loop (fun (i2:Int)=>(⟨[(1,wP 0),(5,wI i2)],[some (.bx 37 ((row_ATarget t1).map .v))]⟩:St)) (j0:=0) (LSB rfl rfl rfl rfl) ?_;rintro n2 again2 ih_again2 i2;refine SS ?_;refine K3 ?_;refine X.lenT ?_;refine K1 ?_;refine NS ?_
       refine VS.cond (fun h10=>?_) (fun h10=>?_)
       ·refine VS.skip (ES.seq (VS.seq (VS.block (VS.seq (VS.drawn ?_)))));refine K3 ?_;refine K1 ?_;refine X.idxT (fun h11=>?_);refine K1 ?_;refine X.call true [] [] (r10_calls_ok _ _) (fun x3=>?_);refine K1 ?_;refine ND ?_;refine ES.seq ?_
        refine VS.cond (fun h12=>?_) (fun h12=>?_)
        ·refine SR ?_;refine K1 ?_;refine X.nil (ES.seq (VS.ret (ES.blkR (ES.thnR (ES.thnR (ES.blkR (ES.thnR ?_)))))));exact ES.ret R1
        ·refine KB ?_;refine K1 ?_;refine X.ck fun h13=>?_;refine K1 ?_;refine X.nil ?_;exact GL ih_again2
       ·refine XE ?_;refine K1 ?_;refine NT ?_;exact ES.ret R1
theorem r09_New_ok (size1:Int) (align1:Int):∀r:AStack × Int,r09_New size1 align1 r→FC 44 [] [cI size1,cI align1] (.tup [.agg ((row_AStack r.1).map .v),cI r.2]) [] []:=by
 refine fnS 28 ?_;unfold r09_New;refine SR ?_;refine X.alloc 0 ?_;refine K1 ?_;refine NV ?_;refine K3 ?_
 refine X.bif (fun h1=>?_) (fun h1=>?_)
 ·(iterate 2 refine X.gN h1 ?_);refine X.pT h1 ?_;refine K1 ?_;(iterate 3 refine X.gN rfl ?_);refine X.pT rfl ?_;refine NS ?_;refine VS.condT rfl ?_;refine SR ?_;refine X.build ?_;refine X.st ?_;refine K1 ?_;refine NU ?_;exact ES.ret (Ret.clo [_,_] ⟨⟨_,_,_,_,_,_,rfl,rfl,fits rfl,rfl⟩,rfl,trivial⟩ trivial)
 ·(iterate 2 refine X.gY h1 ?_;refine K1 ?_);refine X.pF h1 ?_;refine K1 ?_
  refine X.bif (fun h2=>?_) (fun h2=>?_)
  ·(iterate 3 refine X.gN h2 ?_);refine X.pT h2 ?_;refine NS ?_;refine VS.condT rfl ?_;refine SR ?_;refine X.build ?_;refine X.st ?_;refine K1 ?_;refine NU ?_;exact ES.ret (Ret.clo [_,_] ⟨⟨_,_,_,_,_,_,rfl,rfl,fits rfl,rfl⟩,rfl,trivial⟩ trivial)
  ·refine X.gY h2 ?_;refine K1 ?_;refine X.gY h2 ?_;refine X.call true [] [] (r03_Power_ok _) (fun x1=>?_);refine X.gY h2 ?_;refine K1 ?_;refine X.pF h2 ?_;refine NS ?_
   refine VS.cond (fun h3=>?_) (fun h3=>?_)
   ·refine SR ?_;refine X.build ?_;refine X.st ?_;refine K1 ?_;refine NU ?_;exact ES.ret (Ret.clo [_,_] ⟨⟨_,_,_,_,_,_,rfl,rfl,fits rfl,rfl⟩,rfl,trivial⟩ trivial)
   ·refine VS.skip (ES.seq (VS.seq (VS.drawn ?_)));refine K1 ?_;refine X.make 1 (α:=Int) bRow (fun h4=>?_);refine K1 ?_;refine X.make 2 (α:=Bool) oRow (fun h5=>?_);refine K3 ?_;refine X.ck fun h6=>?_;refine X.ck fun h7=>?_;refine X.build ?_;refine X.st ?_;refine K1 ?_;refine ND ?_;refine ES.seq (VS.ret ?_);exact ES.ret (Ret.weak (St.le_tcell _ 0 0 1 rfl rfl rfl rfl) (Ret.weak (St.le_tcell _ 0 1 2 rfl rfl rfl rfl) (Ret.clo [.agg ((row_AStack (⟨(repD size1:List Int),(repD size1:List Bool),(size1- (size1 % align1))⟩:AStack)).map .v),.c (aI 0)] ⟨⟨_,_,_,_,_,_,rfl,rfl,fits rfl,rfl⟩,rfl,trivial⟩ trivial)))
theorem r09_Copy_own (s1:AStack):∀r:AStack,r09_Copy s1 r→FC 108 [] [.agg ((row_AStack s1).map .v)] (.w (.agg [.mref 0,.mref 1,.v (.int .i64 r.SP)])) [.sl 5 1 false (r.Bytes.map bRow),.sl 4 1 false (r.Used.map oRow)] []:=by
 refine fnS 12 ?_;unfold r09_Copy;refine SR ?_;refine X.box 0 ?_;refine X.alloc 1 ?_;refine X.nil (ES.seq (VS.seq (VS.drawn ?_)));refine K2 ?_;refine X.appNT 2 (l':=s1.Bytes) (fun h1=>?_);refine K2 ?_;refine X.appNT 3 (l':=s1.Used) (fun h2=>?_);(iterate 2 refine K1 ?_;refine X.st ?_);refine ND ?_;refine ES.seq (VS.seq (VS.region ?_));refine K1 ?_;refine X.st ?_;refine NT ?_;exact ES.ret (Ret.cloOM [2,3] [.agg [.mref 2,.mref 3,aI s1.SP]] ⟨⟨_,_,_,_,_,_,rfl,rfl,fits rfl,rfl⟩,trivial⟩ trivial)
theorem r09_Push_ok (s1:AStack) (size1:Int):∀r:AStack × Int,r09_Push s1 size1 r→FC 74 [] [.agg ((row_AStack s1).map .v),cI size1] (.tup [.agg ((row_AStack r.1).map .v),cI r.2]) [] []:=by
 refine fnS 36 ?_;unfold r09_Push;refine SR ?_;refine X.box 0 ?_;refine X.alloc 1 ?_;refine K1 ?_;refine NV ?_;refine K2 ?_;refine NS ?_
 refine VS.cond (fun h1=>?_) (fun h1=>?_)
 ·refine SR ?_;refine K1 ?_;refine X.st ?_;refine K1 ?_;refine NU ?_;exact ES.ret (Ret.clo [_,_] ⟨⟨_,_,_,_,_,_,rfl,rfl,fits rfl,rfl⟩,rfl,trivial⟩ trivial)
 ·refine VS.skip (ES.seq (VS.seq (VS.seq (VS.region ?_))));refine K3 ?_;refine K1 ?_;refine NS ?_
  refine VS.cond (fun h2=>?_) (fun h2=>?_)
  ·refine SR ?_;refine K1 ?_;refine X.st ?_;refine K1 ?_;refine NU ?_;exact ES.ret (Ret.clo [_,_] ⟨⟨_,_,_,_,_,_,rfl,rfl,fits rfl,rfl⟩,rfl,trivial⟩ trivial)
  ·refine KR ?_;refine K1 ?_;refine X.callOM [2,3] [] (r09_Copy_own _) (fun x1=>?_);refine X.alloc 4 ?_;refine X.st ?_;refine NR ?_;refine K3 ?_;refine X.ck fun h3=>?_;refine K1 ?_;refine X.st ?_;refine NV ?_;refine K3 ?_;refine NO ?_;refine VS.loop (fun jj:Int × List Bool=>(⟨[(2,wP 0),(4,wP 1),(6,wP 2),(7,wI jj.1)],[some (.bx 114 ((row_AStack s1).map .v)),some (.bx 114 [aT bRow ([]:List Int),aT oRow ([]:List Bool),aI 0]),some (.bx 114 [.mref 3,.mref 4,aI (x1.SP- size1)]),some (.sl 5 1 false (x1.Bytes.map bRow)),some (.sl 4 1 false (jj.2.map oRow))]⟩:St)) (j0:=((x1.SP- size1),x1.Used)) ((St.le_mvB _ 2 6 rfl rfl rfl rfl).trans ((St.le_mvB _ 4 2 rfl rfl rfl rfl).trans ((St.le_mvB _ 3 4 rfl rfl rfl rfl).trans ((St.le_mvB _ 6 3 rfl rfl rfl rfl).trans (LSB rfl rfl rfl rfl))))) ?_;rintro n1 again1 ih_again1 ⟨i1,own1⟩;refine SS ?_
   refine K3 ?_;refine K1 ?_;refine NS ?_
   refine VS.cond (fun h4=>?_) (fun h4=>?_)
   ·refine VS.skip (ES.seq (VS.seq (VS.block (VS.region ?_))));refine K3 ?_;refine X.idxM (l:=own1) (i:=i1) (fun h5=>?_);refine X.set (i:=i1) false h5 ?_;refine NB ?_;refine K1 ?_;refine X.ck fun h6=>?_;refine K1 ?_;refine X.nil ?_;exact GL ih_again1
   ·refine XE ?_;refine K1 ?_;refine X.st ?_;refine K1 ?_;refine NT ?_;exact ES.ret (Ret.weak (St.le_tcell _ 1 0 3 rfl rfl rfl rfl) (Ret.weak (St.le_tcell _ 1 1 4 rfl rfl rfl rfl) (Ret.clo [.agg ((row_AStack (⟨x1.Bytes,own1,(x1.SP- size1)⟩:AStack)).map .v),.c (aI 0)] ⟨⟨_,_,_,_,_,_,rfl,rfl,fits rfl,rfl⟩,rfl,trivial⟩ trivial)))
theorem r12_machine_end_ok (m1:R12machine) (kind1:Int):∀r:R12machine,r12_machine_end m1 kind1 r→FC 46 [(116,row_R12machine m1)] [.c (.ptr 0 0 0),cI kind1] (.tup []) [] [(116,row_R12machine r)]:=by
 refine fnS 12 ?_;unfold r12_machine_end;refine VS.region ?_;refine K3 ?_;refine K3 ?_;refine X.stN [aI m1.t.Align,aT row_AFrame m1.t.Frames,aU m1.regs.e0.Lo,aU m1.regs.e0.Hi,aU m1.regs.e1.Lo,aU m1.regs.e1.Hi,aU m1.regs.e2.Lo,aU m1.regs.e2.Hi,aU m1.regs.e3.Lo,aU m1.regs.e3.Hi,aU m1.regs.e4.Lo,aU m1.regs.e4.Hi,aU m1.regs.e5.Lo,aU m1.regs.e5.Hi,aU m1.regs.e6.Lo,aU m1.regs.e6.Hi,aU m1.regs.e7.Lo,aU m1.regs.e7.Hi,aT row_R12activation m1.acts,aT bRow m1.stack.Bytes,aT oRow m1.stack.Used,aI m1.stack.SP,aI m1.first,aI m1.deep,aT uRow m1.input,.v (.bool m1.done),aI kind1,aU m1.out.Code,aU m1.out.Result.Lo,aU m1.out.Result.Hi,aT row_AValue m1.out.Trace,aI m1.out.Steps] ?_;refine K2 ?_;refine X.stN [aI m1.t.Align,aT row_AFrame m1.t.Frames,aU m1.regs.e0.Lo,aU m1.regs.e0.Hi,aU m1.regs.e1.Lo,aU m1.regs.e1.Hi,aU m1.regs.e2.Lo,aU m1.regs.e2.Hi,aU m1.regs.e3.Lo,aU m1.regs.e3.Hi,aU m1.regs.e4.Lo,aU m1.regs.e4.Hi,aU m1.regs.e5.Lo,aU m1.regs.e5.Hi,aU m1.regs.e6.Lo,aU m1.regs.e6.Hi,aU m1.regs.e7.Lo,aU m1.regs.e7.Hi,aT row_R12activation m1.acts,aT bRow m1.stack.Bytes,aT oRow m1.stack.Used,aI m1.stack.SP,aI m1.first,aI m1.deep,aT uRow m1.input,.v (.bool true),aI kind1,aU m1.out.Code,aU m1.out.Result.Lo,aU m1.out.Result.Hi,aT row_AValue m1.out.Trace,aI m1.out.Steps] ?_
 refine X.nil ?_;refine ES.retN ?_;exact Ret.clo [] trivial ⟨rfl,trivial⟩
theorem r12_machine_enter_ok (m1:R12machine) (f1:Int):∀r:R12machine,r12_machine_enter m1 f1 r→FC 45 [(116,row_R12machine m1)] [.c (.ptr 0 0 0),cI f1] (.tup []) [] [(116,row_R12machine r)]:=by
 refine fnS 58 ?_;unfold r12_machine_enter;refine VS.seq (VS.drawn ?_);(iterate 3 refine K3 ?_);refine K1 ?_;refine X.idxT (fun h1=>?_);refine K2 ?_;refine X.call true [] [] (r09_Push_ok _ _) (fun x1=>?_);refine K3 ?_;refine X.alloc 1 ?_;refine X.st ?_;refine K1 ?_;refine ND ?_;refine ES.seq (VS.seq (VS.seq (VS.region ?_)));refine K2 ?_;refine NS ?_
 refine VS.cond (fun h2=>?_) (fun h2=>?_)
 ·refine SR ?_;refine K1 ?_;refine X.call true [] [0] (r12_machine_end_ok _ _) (fun x2=>?_);refine NU ?_;exact ES.ret (Ret.clo [] trivial ⟨rfl,trivial⟩)
 ·refine KR ?_;refine K3 ?_;refine K1 ?_;refine X.stN [aI m1.t.Align,aT row_AFrame m1.t.Frames,aU m1.regs.e0.Lo,aU m1.regs.e0.Hi,aU m1.regs.e1.Lo,aU m1.regs.e1.Hi,aU m1.regs.e2.Lo,aU m1.regs.e2.Hi,aU m1.regs.e3.Lo,aU m1.regs.e3.Hi,aU m1.regs.e4.Lo,aU m1.regs.e4.Hi,aU m1.regs.e5.Lo,aU m1.regs.e5.Hi,aU m1.regs.e6.Lo,aU m1.regs.e6.Hi,aU m1.regs.e7.Lo,aU m1.regs.e7.Hi,aT row_R12activation m1.acts,aT bRow x1.1.Bytes,aT oRow x1.1.Used,aI x1.1.SP,aI m1.first,aI m1.deep,aT uRow m1.input,.v (.bool m1.done),aI m1.out.Kind,aU m1.out.Code,aU m1.out.Result.Lo,aU m1.out.Result.Hi,aT row_AValue m1.out.Trace,aI m1.out.Steps] ?_;refine X.nil (ES.seq (VS.seq (VS.drawn ?_)));(iterate 3 refine K3 ?_);refine K2 ?_;refine X.ck fun h3=>?_;refine X.max ?_;refine K2 ?_;refine X.stN [aI m1.t.Align,aT row_AFrame m1.t.Frames,aU m1.regs.e0.Lo,aU m1.regs.e0.Hi,aU m1.regs.e1.Lo,aU m1.regs.e1.Hi,aU m1.regs.e2.Lo,aU m1.regs.e2.Hi,aU m1.regs.e3.Lo,aU m1.regs.e3.Hi,aU m1.regs.e4.Lo,aU m1.regs.e4.Hi,aU m1.regs.e5.Lo,aU m1.regs.e5.Hi,aU m1.regs.e6.Lo,aU m1.regs.e6.Hi,aU m1.regs.e7.Lo,aU m1.regs.e7.Hi,aT row_R12activation m1.acts,aT bRow x1.1.Bytes,aT oRow x1.1.Used,aI x1.1.SP,aI m1.first,aI (max m1.deep (m1.first- x1.1.SP)),aT uRow m1.input,.v (.bool m1.done),aI m1.out.Kind,aU m1.out.Code,aU m1.out.Result.Lo,aU m1.out.Result.Hi,aT row_AValue m1.out.Trace,aI m1.out.Steps] ?_
  refine ND ?_;refine EG ?_;refine K3 ?_;refine K2 ?_;refine X.appNT 2 (l':=m1.acts) (fun h4=>?_);refine K1 ?_;refine X.build ?_;refine X.bs 3 ([(⟨f1,0⟩:R12activation)]:List R12activation) row_R12activation ?_;refine X.appMM 4 (l:=m1.acts) (l':=([(⟨f1,0⟩:R12activation)]:List R12activation)) (fun h5=>?_);refine K2 ?_;refine X.stN [aI m1.t.Align,aT row_AFrame m1.t.Frames,aU m1.regs.e0.Lo,aU m1.regs.e0.Hi,aU m1.regs.e1.Lo,aU m1.regs.e1.Hi,aU m1.regs.e2.Lo,aU m1.regs.e2.Hi,aU m1.regs.e3.Lo,aU m1.regs.e3.Hi,aU m1.regs.e4.Lo,aU m1.regs.e4.Hi,aU m1.regs.e5.Lo,aU m1.regs.e5.Hi,aU m1.regs.e6.Lo,aU m1.regs.e6.Hi,aU m1.regs.e7.Lo,aU m1.regs.e7.Hi,.mref 4,aT bRow x1.1.Bytes,aT oRow x1.1.Used,aI x1.1.SP,aI m1.first,aI (max m1.deep (m1.first- x1.1.SP)),aT uRow m1.input,.v (.bool m1.done),aI m1.out.Kind,aU m1.out.Code,aU m1.out.Result.Lo,aU m1.out.Result.Hi,aT row_AValue m1.out.Trace,aI m1.out.Steps] ?_;refine X.nil ?_;refine ES.retN ?_;exact Ret.weak (St.le_tcell _ 0 18 4 rfl rfl rfl rfl) (Ret.clo [] trivial ⟨rfl,trivial⟩)
theorem r09_Pop_ok (s1:AStack) (size1:Int):∀r:AStack × Int,r09_Pop s1 size1 r→FC 109 [] [.agg ((row_AStack s1).map .v),cI size1] (.tup [.agg ((row_AStack r.1).map .v),cI r.2]) [] []:=by
 refine fnS 25 ?_;unfold r09_Pop;refine SR ?_;refine X.box 0 ?_;refine X.alloc 1 ?_;refine K1 ?_;refine NV ?_;refine K3 ?_
 refine X.bif (fun h1=>?_) (fun h1=>?_)
 ·(iterate 8 refine X.gN h1 ?_);refine X.pT h1 ?_;refine NS ?_;refine VS.condT rfl ?_;refine SR ?_;refine K1 ?_;refine X.st ?_;refine K1 ?_;refine NU ?_;exact ES.ret (Ret.clo [_,_] ⟨⟨_,_,_,_,_,_,rfl,rfl,fits rfl,rfl⟩,rfl,trivial⟩ trivial)
 ·(iterate 3 refine X.gY h1 ?_;refine K1 ?_);refine X.gY h1 ?_;refine X.lenT ?_;(iterate 2 refine X.gY h1 ?_;refine K1 ?_);refine X.gY h1 ?_;refine X.ck fun h2=>?_;refine X.gY h1 ?_;refine K1 ?_;refine X.pF h1 ?_;refine NS ?_
  refine VS.cond (fun h3=>?_) (fun h3=>?_)
  ·refine SR ?_;refine K1 ?_;refine X.st ?_;refine K1 ?_;refine NU ?_;exact ES.ret (Ret.clo [_,_] ⟨⟨_,_,_,_,_,_,rfl,rfl,fits rfl,rfl⟩,rfl,trivial⟩ trivial)
  ·refine KR ?_;refine K3 ?_;refine X.ck fun h4=>?_;refine K1 ?_;refine X.st ?_;refine NR ?_;refine K1 ?_;refine X.st ?_;refine K1 ?_;refine NT ?_;exact ES.ret (Ret.clo [_,_] ⟨⟨_,_,_,_,_,_,rfl,rfl,fits rfl,rfl⟩,rfl,trivial⟩ trivial)
theorem r12_machine_leave_ok (m1:R12machine):∀r:R12machine,r12_machine_leave m1 r→FC 75 [(116,row_R12machine m1)] [.c (.ptr 0 0 0)] (.tup []) [] [(116,row_R12machine r)]:=by
 refine fnS 59 ?_;unfold r12_machine_leave;refine SR ?_;refine K3 ?_;refine K1 ?_;refine X.lenT ?_;refine X.ck fun h1=>?_;refine K1 ?_;refine X.nil (ES.seq (VS.seq (VS.drawn ?_)));(iterate 5 refine K3 ?_);refine X.idxT (fun h2=>?_);refine K2 ?_;refine X.idxT (fun h3=>?_);refine K2 ?_;refine X.call true [] [] (r09_Pop_ok _ _) (fun x1=>?_);refine K3 ?_;refine K2 ?_;refine X.stN [aI m1.t.Align,aT row_AFrame m1.t.Frames,aU m1.regs.e0.Lo,aU m1.regs.e0.Hi,aU m1.regs.e1.Lo,aU m1.regs.e1.Hi,aU m1.regs.e2.Lo,aU m1.regs.e2.Hi,aU m1.regs.e3.Lo,aU m1.regs.e3.Hi,aU m1.regs.e4.Lo,aU m1.regs.e4.Hi,aU m1.regs.e5.Lo,aU m1.regs.e5.Hi,aU m1.regs.e6.Lo,aU m1.regs.e6.Hi,aU m1.regs.e7.Lo,aU m1.regs.e7.Hi,aT row_R12activation m1.acts,aT bRow x1.1.Bytes,aT oRow x1.1.Used,aI x1.1.SP,aI m1.first,aI m1.deep,aT uRow m1.input,.v (.bool m1.done),aI m1.out.Kind,aU m1.out.Code,aU m1.out.Result.Lo,aU m1.out.Result.Hi,aT row_AValue m1.out.Trace,aI m1.out.Steps] ?_
 refine ND ?_;refine ES.seq (VS.seq (VS.region ?_));refine K3 ?_;refine K3 ?_;refine X.sliceT none (some ((m1.acts.length:Int)- 1)) (fun h4=>?_) trivial ⟨_,rfl⟩;refine X.appNT 1 (l':=(sliceD m1.acts 0 ((m1.acts.length:Int)- 1))) (fun h5=>?_);refine K2 ?_;refine X.stN [aI m1.t.Align,aT row_AFrame m1.t.Frames,aU m1.regs.e0.Lo,aU m1.regs.e0.Hi,aU m1.regs.e1.Lo,aU m1.regs.e1.Hi,aU m1.regs.e2.Lo,aU m1.regs.e2.Hi,aU m1.regs.e3.Lo,aU m1.regs.e3.Hi,aU m1.regs.e4.Lo,aU m1.regs.e4.Hi,aU m1.regs.e5.Lo,aU m1.regs.e5.Hi,aU m1.regs.e6.Lo,aU m1.regs.e6.Hi,aU m1.regs.e7.Lo,aU m1.regs.e7.Hi,.mref 1,aT bRow x1.1.Bytes,aT oRow x1.1.Used,aI x1.1.SP,aI m1.first,aI m1.deep,aT uRow m1.input,.v (.bool m1.done),aI m1.out.Kind,aU m1.out.Code,aU m1.out.Result.Lo,aU m1.out.Result.Hi,aT row_AValue m1.out.Trace,aI m1.out.Steps] ?_;refine NR ?_;refine K2 ?_;refine NS ?_
 refine VS.cond (fun h6=>?_) (fun h6=>?_)
 ·refine VS.seq ?_;refine VS.weak (St.le_tree _ 43 1 rfl rfl) ?_;refine VS.weak (St.le_tcell _ 0 18 1 rfl rfl rfl rfl) ?_;refine VS.region ?_;refine K1 ?_;refine X.call true [] [0] (r12_machine_end_ok _ _) (fun x2=>?_);refine NG ?_;refine K3 ?_;refine K1 ?_;refine X.idxAV 0 ?_;refine K3 ?_;refine K1 ?_;refine X.stN [aI x2.t.Align,aT row_AFrame x2.t.Frames,aU x2.regs.e0.Lo,aU x2.regs.e0.Hi,aU x2.regs.e1.Lo,aU x2.regs.e1.Hi,aU x2.regs.e2.Lo,aU x2.regs.e2.Hi,aU x2.regs.e3.Lo,aU x2.regs.e3.Hi,aU x2.regs.e4.Lo,aU x2.regs.e4.Hi,aU x2.regs.e5.Lo,aU x2.regs.e5.Hi,aU x2.regs.e6.Lo,aU x2.regs.e6.Hi,aU x2.regs.e7.Lo,aU x2.regs.e7.Hi,aT row_R12activation x2.acts,aT bRow x2.stack.Bytes,aT oRow x2.stack.Used,aI x2.stack.SP,aI x2.first,aI x2.deep,aT uRow x2.input,.v (.bool x2.done),aI x2.out.Kind,aU x2.out.Code,aU x2.regs.e0.Lo,aU x2.regs.e0.Hi,aT row_AValue x2.out.Trace,aI x2.out.Steps] ?_
  refine X.nil ?_;refine ES.retN ?_;exact Ret.clo [] trivial ⟨rfl,trivial⟩
 ·refine VS.skip ?_;refine ES.retN ?_;exact Ret.weak (St.le_tcell _ 0 18 1 rfl rfl rfl rfl) (Ret.clo [] trivial ⟨rfl,trivial⟩)
theorem r09_right_ok (s1:AStack) (off1:Int) (size1:Int):∀r:Bool,r09_right s1 off1 size1 r→FC 158 [] [.agg ((row_AStack s1).map .v),cI off1,cI size1] (.w (.c (.v (.bool r)))) [] []:=by
 refine fnS 25 ?_;unfold r09_right;refine SR ?_;refine X.box 0 ?_;refine K1 ?_;refine NR ?_;refine K1 ?_;refine X.call true [] [] (r02_Size_ok _) (fun x1=>?_);refine K1 ?_
 refine X.bif (fun h1=>?_) (fun h1=>?_)
 ·(iterate 2 refine X.gY h1 ?_;refine K1 ?_);refine X.pT h1 ?_;refine K1 ?_
  refine X.bif (fun h2=>?_) (fun h2=>?_)
  ·(iterate 3 refine X.gY h2 ?_;refine K1 ?_);refine X.gY h2 ?_;refine X.lenT ?_;(iterate 2 refine X.gY h2 ?_;refine K1 ?_);refine X.gY h2 ?_;refine X.ck fun h3=>?_;refine X.gY h2 ?_;refine K1 ?_;refine X.gY h2 ?_;refine X.ck fun h4=>?_;refine X.gY h2 ?_;refine K1 ?_;refine X.pT h2 ?_;refine K1 ?_;refine NT ?_;exact ES.ret R1
  ·(iterate 10 refine X.gN h2 ?_);refine X.pF h2 ?_;refine K1 ?_;refine NT ?_;exact ES.ret R1
 ·(iterate 2 refine X.gN h1 ?_);refine X.pF h1 ?_;refine K1 ?_;(iterate 10 refine X.gN rfl ?_);refine X.pF rfl ?_;refine K1 ?_;refine NT ?_;exact ES.ret R1
theorem r09_used_ok (s1:AStack) (off1:Int) (size1:Int):∀r:Bool,r09_used s1 off1 size1 r→FC 159 [] [.agg ((row_AStack s1).map .v),cI off1,cI size1] (.w (.c (.v (.bool r)))) [] []:=by
 refine fnS 24 ?_;unfold r09_used;refine SR ?_;refine X.box 0 ?_;refine K1 ?_;refine NV ?_;refine K1 ?_;refine NO ?_;refine VS.loop (fun (k1:Int)=>(⟨[(1,wI off1),(2,wI size1),(3,wP 0),(7,wI k1)],[some (.bx 114 ((row_AStack s1).map .v))]⟩:St)) (j0:=0) (LSB rfl rfl rfl rfl) ?_;rintro n1 again1 ih_again1 k1;refine SS ?_;refine K3 ?_;refine NS ?_
 refine VS.cond (fun h1=>?_) (fun h1=>?_)
 ·refine KW ?_;refine K3 ?_;refine K2 ?_;refine X.ck fun h2=>?_;refine K1 ?_;refine X.ck fun h3=>?_;refine X.idxT (fun h4=>?_);refine K2 ?_;refine NS ?_
  refine VS.cond (fun h5=>?_) (fun h5=>?_)
  ·refine SR ?_;refine K1 ?_;refine X.nil (ES.seq (VS.ret (ES.blkR (ES.thnR (ES.thnR (ES.blkR (ES.thnR ?_)))))));exact ES.ret R1
  ·refine KB ?_;refine K1 ?_;refine X.ck fun h6=>?_;refine K1 ?_;refine X.nil ?_;exact GL ih_again1
 ·refine XE ?_;refine K1 ?_;refine NT ?_;exact ES.ret R1
theorem r09_Load_ok (s1:AStack) (off1:Int) (size1:Int):∀r:AValue × Bool × Int,r09_Load s1 off1 size1 r→FC 110 [] [.agg ((row_AStack s1).map .v),cI off1,cI size1] (.tup [.agg ((row_AValue r.1).map .v),.c (.v (.bool r.2.1)),cI r.2.2]) [] []:=by
 refine fnS 35 ?_;unfold r09_Load;refine SR ?_;refine X.box 0 ?_;refine X.alloc 1 ?_;refine K2 ?_;refine NV ?_;refine K3 ?_;refine X.call true [] [] (r09_right_ok _ _ _) (fun x1=>?_);refine K1 ?_;refine NS ?_
 refine VS.cond (fun h1=>?_) (fun h1=>?_)
 ·refine SR ?_;refine X.build ?_;refine X.st ?_;refine K2 ?_;refine NU ?_;exact ES.ret (Ret.clo [_,_,_] ⟨⟨_,_,_,_,_,_,rfl,rfl,fits rfl,rfl⟩,rfl,rfl,trivial⟩ trivial)
 ·refine VS.skip (ES.seq (VS.seq (VS.seq (VS.region ?_))));refine K3 ?_;refine X.call true [] [] (r09_used_ok _ _ _) (fun x2=>?_);refine K1 ?_;refine NS ?_
  refine VS.cond (fun h2=>?_) (fun h2=>?_)
  ·refine SR ?_;refine X.build ?_;refine X.st ?_;refine K2 ?_;refine NU ?_;exact ES.ret (Ret.clo [_,_,_] ⟨⟨_,_,_,_,_,_,rfl,rfl,fits rfl,rfl⟩,rfl,rfl,trivial⟩ trivial)
  ·refine KR ?_;refine K3 ?_;refine K2 ?_;refine X.ck fun h3=>?_;refine K3 ?_;refine X.ck fun h4=>?_;refine K1 ?_;refine X.ck fun h5=>?_;refine X.sliceT (some (s1.SP+off1)) (some ((s1.SP+off1)+size1)) (fun h6=>?_) ⟨_,rfl⟩ ⟨_,rfl⟩;refine X.call true [] [] (r02_FromBytes_ok _) (fun x3=>?_);refine X.st ?_;refine K2 ?_;refine NT ?_;exact ES.ret (Ret.clo [_,_,_] ⟨⟨_,_,_,_,_,_,rfl,rfl,fits rfl,rfl⟩,rfl,rfl,trivial⟩ trivial)
theorem r09_Store_ok (s1:AStack) (off1:Int) (size1:Int) (v1:AValue):∀r:AStack × Int,r09_Store s1 off1 size1 v1 r→FC 111 [] [.agg ((row_AStack s1).map .v),cI off1,cI size1,.agg ((row_AValue v1).map .v)] (.tup [.agg ((row_AStack r.1).map .v),cI r.2]) [] []:=by
 refine fnS 52 ?_;unfold r09_Store;refine SR ?_;refine X.box 0 ?_;refine X.box 1 ?_;refine X.alloc 2 ?_;refine K1 ?_;refine NV ?_;refine K3 ?_;refine X.call true [] [] (r09_right_ok _ _ _) (fun x1=>?_);refine K1 ?_;refine NS ?_
 refine VS.cond (fun h1=>?_) (fun h1=>?_)
 ·refine SR ?_;refine K1 ?_;refine X.st ?_;refine K1 ?_;refine NU ?_;exact ES.ret (Ret.clo [_,_] ⟨⟨_,_,_,_,_,_,rfl,rfl,fits rfl,rfl⟩,rfl,trivial⟩ trivial)
 ·refine KR ?_;refine K1 ?_;refine X.callOM [3,4] [] (r09_Copy_own _) (fun x2=>?_);refine X.alloc 5 ?_;refine X.st ?_;refine NR ?_;refine K2 ?_;refine X.call true [] [] (r02_Bytes_ok _ _) (fun x3=>?_);refine K1 ?_;refine NV ?_;refine K1 ?_;refine NO ?_;refine VS.loop (fun jj:Int × List Int × List Bool=>(⟨[(1,wI off1),(2,wI size1),(4,wP 0),(8,wP 1),(10,wP 2),(11,wT bRow x3),(12,wI jj.1)],[some (.bx 114 ((row_AStack s1).map .v)),some (.bx 114 [aT bRow ([]:List Int),aT oRow ([]:List Bool),aI 0]),some (.bx 114 [.mref 3,.mref 4,aI x2.SP]),some (.sl 5 1 false (jj.2.1.map bRow)),some (.sl 4 1 false (jj.2.2.map oRow))]⟩:St)) (j0:=(0,x2.Bytes,x2.Used)) ((St.le_drop _ 1 (Nat.le_of_ble_eq_true rfl)).trans ((St.le_mvB _ 2 1 rfl rfl rfl rfl).trans ((St.le_mvB _ 5 2 rfl rfl rfl rfl).trans (LSB rfl rfl rfl rfl)))) ?_;rintro n1 again1 ih_again1 ⟨k1,own1,own2⟩
  refine SS ?_;refine K3 ?_;refine NS ?_
  refine VS.cond (fun h2=>?_) (fun h2=>?_)
  ·refine VS.skip (ES.seq (VS.seq (VS.block (VS.drawn ?_))));refine K3 ?_;refine K2 ?_;refine X.ck fun h3=>?_;refine K1 ?_;refine X.ck fun h4=>?_;refine K3 ?_;refine K2 ?_;refine X.ck fun h5=>?_;refine K1 ?_;refine X.ck fun h6=>?_;refine K2 ?_;refine X.idxT (fun h7=>?_);refine K1 ?_;refine X.idxM (l:=own1) (i:=((s1.SP+off1)+k1)) (fun h8=>?_);refine X.set (i:=((s1.SP+off1)+k1)) (atD x3 k1) h8 ?_;refine X.idxM (l:=own2) (i:=((s1.SP+off1)+k1)) (fun h9=>?_);refine X.set (i:=((s1.SP+off1)+k1)) true h9 ?_;refine ND ?_;refine ES.blkN (ES.seq (VS.region ?_));refine K1 ?_;refine X.ck fun h10=>?_;refine K1 ?_;refine X.nil ?_;exact GL ih_again1
  ·refine XE ?_;refine K1 ?_;refine X.st ?_;refine K1 ?_;refine NT ?_;exact ES.ret (Ret.weak (St.le_tcell _ 1 0 3 rfl rfl rfl rfl) (Ret.weak (St.le_tcell _ 1 1 4 rfl rfl rfl rfl) (Ret.clo [.agg ((row_AStack (⟨own1,own2,x2.SP⟩:AStack)).map .v),.c (aI 0)] ⟨⟨_,_,_,_,_,_,rfl,rfl,fits rfl,rfl⟩,rfl,trivial⟩ trivial)))
theorem r09_Move_ok (s1:AStack) (to1:Int) (from1:Int) (size1:Int):∀r:AStack × Bool × Int,r09_Move s1 to1 from1 size1 r→FC 112 [] [.agg ((row_AStack s1).map .v),cI to1,cI from1,cI size1] (.tup [.agg ((row_AStack r.1).map .v),.c (.v (.bool r.2.1)),cI r.2.2]) [] []:=by
 refine fnS 49 ?_;unfold r09_Move;refine SR ?_;refine X.box 0 ?_;refine X.alloc 1 ?_;refine K2 ?_;refine NV ?_;refine K3 ?_;refine X.call true [] [] (r09_right_ok _ _ _) (fun x1=>?_);refine K2 ?_
 refine X.bif (fun h1=>?_) (fun h1=>?_)
 ·(iterate 5 refine X.gN h1 ?_);refine X.pT h1 ?_;refine NS ?_;refine VS.condT rfl ?_;refine SR ?_;refine K1 ?_;refine X.st ?_;refine K2 ?_;refine NU ?_;exact ES.ret (Ret.clo [_,_,_] ⟨⟨_,_,_,_,_,_,rfl,rfl,fits rfl,rfl⟩,rfl,rfl,trivial⟩ trivial)
 ·(iterate 3 refine X.gY h1 ?_;refine K1 ?_);refine X.gY h1 ?_;refine X.call true [] [] (r09_right_ok _ _ _) (fun x2=>?_);refine X.gY h1 ?_;refine K1 ?_;refine X.pF h1 ?_;refine NS ?_
  refine VS.cond (fun h2=>?_) (fun h2=>?_)
  ·refine SR ?_;refine K1 ?_;refine X.st ?_;refine K2 ?_;refine NU ?_;exact ES.ret (Ret.clo [_,_,_] ⟨⟨_,_,_,_,_,_,rfl,rfl,fits rfl,rfl⟩,rfl,rfl,trivial⟩ trivial)
  ·refine KR ?_;refine K3 ?_;refine X.call true [] [] (r09_Load_ok _ _ _) (fun x3=>?_);refine K3 ?_;refine K1 ?_;refine X.alloc 2 ?_;refine X.st ?_;refine K2 ?_;refine NV ?_;refine K2 ?_;refine NS ?_
   refine VS.cond (fun h3=>?_) (fun h3=>?_)
   ·refine SR ?_;refine K1 ?_;refine X.st ?_;refine K2 ?_;refine NU ?_;exact ES.ret (Ret.clo [_,_,_] ⟨⟨_,_,_,_,_,_,rfl,rfl,fits rfl,rfl⟩,rfl,rfl,trivial⟩ trivial)
   ·refine KR ?_;refine K3 ?_;refine K1 ?_;refine X.call true [] [] (r09_Store_ok _ _ _ _) (fun x4=>?_);refine K3 ?_;refine X.alloc 3 ?_;refine X.st ?_;refine K1 ?_;refine NS ?_;refine VS.weak (s':=(⟨[(8,wP 1),(14,wP 3)],[some (.bx 114 ((row_AStack s1).map .v)),some (.bx 114 [aT bRow ([]:List Int),aT oRow ([]:List Bool),aI 0]),some (.bx 44 ((row_AValue x3.1).map .v)),some (.bx 114 ((row_AStack x4.1).map .v))]⟩:St)) (LSB rfl rfl rfl rfl) ?_;refine SR ?_;refine K1 ?_;refine X.st ?_;refine K2 ?_;refine NT ?_;exact ES.ret (Ret.clo [_,_,_] ⟨⟨_,_,_,_,_,_,rfl,rfl,fits rfl,rfl⟩,rfl,rfl,trivial⟩ trivial)
theorem r12_machine_memory_ok (m1:R12machine) (x1:AInstr):∀r:Bool × R12machine,r12_machine_memory m1 x1 r→FC 76 [(116,row_R12machine m1)] [.c (.ptr 0 0 0),.agg ((row_AInstr x1).map .v)] (.w (.c (.v (.bool r.1)))) [] [(116,row_R12machine r.2)]:=by
 refine fnS 91 ?_;unfold r12_machine_memory;refine SR ?_;refine X.box 1 ?_;refine K1 ?_;refine NR ?_;refine K2 ?_;refine NS ?_
 refine VS.join (fun jj:Bool × Int × R12machine=>(⟨[(0,wP 0),(5,.w (.c (.v (.bool jj.1)))),(6,wI jj.2.1)],[some (.bx 116 ((row_R12machine jj.2.2).map .v))]⟩:St)) ?_ ?_
 ·rintro ⟨ok1,e1,m2⟩;refine VS.seq (VS.block (VS.seq (VS.region ?_)));refine K3 ?_;refine NS ?_
  refine VS.cond (fun h1=>?_) (fun h1=>?_)
  ·refine VS.region ?_;refine K1 ?_;refine X.call true [] [0] (r12_machine_end_ok _ _) (fun x2=>?_);refine X.nil (ES.blkN (ES.seq (VS.seq (VS.region ?_))));refine K1 ?_;refine NT ?_;exact ES.ret (Ret.clo [_] ⟨rfl,trivial⟩ ⟨rfl,trivial⟩)
  ·refine SR ?_;refine K3 ?_;refine NS ?_
   refine VS.cond (fun h2=>?_) (fun h2=>?_)
   ·refine VS.region ?_;refine K1 ?_;refine X.call true [] [0] (r12_machine_end_ok _ _) (fun x3=>?_);refine X.nil (ES.blkN (ES.seq (VS.seq (VS.region ?_))));refine K1 ?_;refine NT ?_;exact ES.ret (Ret.clo [_] ⟨rfl,trivial⟩ ⟨rfl,trivial⟩)
   ·refine VS.skip (ES.blkN (ES.seq (VS.seq (VS.region ?_))));refine K1 ?_;refine NT ?_;exact ES.ret (Ret.clo [_] ⟨rfl,trivial⟩ ⟨rfl,trivial⟩)
 ·intro k1 ih_k1;refine SR ?_;refine K2 ?_;refine X.nil (ES.seq (VS.block (VS.seq (VS.region ?_))));refine K2 ?_;refine NS ?_
  refine VS.cond (fun h3=>?_) (fun h3=>?_)
  ·refine SR ?_;refine X.alloc 2 ?_;refine X.nil (ES.seq (VS.seq (VS.drawn ?_)));refine K3 ?_;refine K3 ?_;refine K2 ?_;refine X.call true [] [] (r09_Load_ok _ _ _) (fun x4=>?_);refine K3 ?_;refine K1 ?_;refine X.st ?_;refine K2 ?_;refine ND ?_;refine ES.seq (VS.seq (VS.region ?_));refine K2 ?_
   refine X.bif (fun h4=>?_) (fun h4=>?_)
   ·(iterate 2 refine X.gY h4 ?_;refine K1 ?_);refine X.pT h4 ?_;refine NS ?_
    refine VS.cond (fun h5=>?_) (fun h5=>?_)
    ·refine VS.drawn ?_;refine K3 ?_;refine K3 ?_;refine X.idxAS (fun h6=>?_);refine X.stAS (fun i=>[aI m1.t.Align,aT row_AFrame m1.t.Frames,aU (((Arr8AValue.set m1.regs i x4.1).e0).Lo),aU (((Arr8AValue.set m1.regs i x4.1).e0).Hi),aU (((Arr8AValue.set m1.regs i x4.1).e1).Lo),aU (((Arr8AValue.set m1.regs i x4.1).e1).Hi),aU (((Arr8AValue.set m1.regs i x4.1).e2).Lo),aU (((Arr8AValue.set m1.regs i x4.1).e2).Hi),aU (((Arr8AValue.set m1.regs i x4.1).e3).Lo),aU (((Arr8AValue.set m1.regs i x4.1).e3).Hi),aU (((Arr8AValue.set m1.regs i x4.1).e4).Lo),aU (((Arr8AValue.set m1.regs i x4.1).e4).Hi),aU (((Arr8AValue.set m1.regs i x4.1).e5).Lo),aU (((Arr8AValue.set m1.regs i x4.1).e5).Hi),aU (((Arr8AValue.set m1.regs i x4.1).e6).Lo),aU (((Arr8AValue.set m1.regs i x4.1).e6).Hi),aU (((Arr8AValue.set m1.regs i x4.1).e7).Lo),aU (((Arr8AValue.set m1.regs i x4.1).e7).Hi),aT row_R12activation m1.acts,aT bRow m1.stack.Bytes,aT oRow m1.stack.Used,aI m1.stack.SP,aI m1.first,aI m1.deep,aT uRow m1.input,.v (.bool m1.done),aI m1.out.Kind,aU m1.out.Code,aU m1.out.Result.Lo,aU m1.out.Result.Hi,aT row_AValue m1.out.Trace,aI m1.out.Steps]) 2 2 0 h6 ?_
     refine ND ?_;refine ES.blkN ?_;exact JL ih_k1
    ·refine VS.skip (ES.blkN ?_);exact JL ih_k1
   ·(iterate 2 refine X.gN h4 ?_);refine X.pF h4 ?_;refine NS ?_;refine VS.condF rfl ?_;refine VS.skip (ES.blkN ?_);exact JL ih_k1
  ·refine SR ?_;refine K2 ?_;refine NS ?_
   refine VS.cond (fun h7=>?_) (fun h7=>?_)
   ·refine VS.drawn ?_;(iterate 4 refine K3 ?_);refine K2 ?_;refine X.idxAS (fun h8=>?_);refine X.ldAS (fun i=> .agg ((row_AValue (Arr8AValue.at_ m1.regs i)).map .v)) 2 2 0 h8 ?_;refine X.call true [] [] (r09_Store_ok _ _ _ _) (fun x5=>?_);refine K3 ?_;refine K2 ?_;refine X.stN [aI m1.t.Align,aT row_AFrame m1.t.Frames,aU m1.regs.e0.Lo,aU m1.regs.e0.Hi,aU m1.regs.e1.Lo,aU m1.regs.e1.Hi,aU m1.regs.e2.Lo,aU m1.regs.e2.Hi,aU m1.regs.e3.Lo,aU m1.regs.e3.Hi,aU m1.regs.e4.Lo,aU m1.regs.e4.Hi,aU m1.regs.e5.Lo,aU m1.regs.e5.Hi,aU m1.regs.e6.Lo,aU m1.regs.e6.Hi,aU m1.regs.e7.Lo,aU m1.regs.e7.Hi,aT row_R12activation m1.acts,aT bRow x5.1.Bytes,aT oRow x5.1.Used,aI x5.1.SP,aI m1.first,aI m1.deep,aT uRow m1.input,.v (.bool m1.done),aI m1.out.Kind,aU m1.out.Code,aU m1.out.Result.Lo,aU m1.out.Result.Hi,aT row_AValue m1.out.Trace,aI m1.out.Steps] ?_
    refine K1 ?_;refine ND ?_;refine ES.blkN ?_;exact JL ih_k1
   ·refine SR ?_;refine K2 ?_;refine NS ?_
    refine VS.cond (fun h9=>?_) (fun h9=>?_)
    ·refine VS.drawn ?_;(iterate 3 refine K3 ?_);refine K2 ?_;refine X.call true [] [] (r09_Move_ok _ _ _ _) (fun x6=>?_);refine K3 ?_;refine K3 ?_;refine X.stN [aI m1.t.Align,aT row_AFrame m1.t.Frames,aU m1.regs.e0.Lo,aU m1.regs.e0.Hi,aU m1.regs.e1.Lo,aU m1.regs.e1.Hi,aU m1.regs.e2.Lo,aU m1.regs.e2.Hi,aU m1.regs.e3.Lo,aU m1.regs.e3.Hi,aU m1.regs.e4.Lo,aU m1.regs.e4.Hi,aU m1.regs.e5.Lo,aU m1.regs.e5.Hi,aU m1.regs.e6.Lo,aU m1.regs.e6.Hi,aU m1.regs.e7.Lo,aU m1.regs.e7.Hi,aT row_R12activation m1.acts,aT bRow x6.1.Bytes,aT oRow x6.1.Used,aI x6.1.SP,aI m1.first,aI m1.deep,aT uRow m1.input,.v (.bool m1.done),aI m1.out.Kind,aU m1.out.Code,aU m1.out.Result.Lo,aU m1.out.Result.Hi,aT row_AValue m1.out.Trace,aI m1.out.Steps] ?_;refine K2 ?_;refine ND ?_;refine ES.blkN ?_;exact JL ih_k1
    ·refine SR ?_;refine K1 ?_;refine X.nil (ES.seq (VS.ret (ES.blkR (ES.thnR ?_))));exact ES.ret (Ret.clo [_] ⟨rfl,trivial⟩ ⟨rfl,trivial⟩)
end Go.Proofs.YtgbkhjllbgmdcaaGreat.Q
