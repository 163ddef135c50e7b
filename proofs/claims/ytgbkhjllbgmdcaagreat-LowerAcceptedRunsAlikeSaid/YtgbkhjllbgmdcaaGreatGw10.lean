/- Walks of functions: the code does what the lifted text says (written by a program). -/
import Derived.Test.YtgbkhjllbgmdcaaGreatLR
import Derived.Test.YtgbkhjllbgmdcaaGreatGw9
set_option linter.unusedVariables false
set_option linter.unusedSimpArgs false
set_option maxRecDepth 8000
namespace Go.Proofs.YtgbkhjllbgmdcaaGreat.Q
open Go.RowKit
set_option maxHeartbeats 4000000
theorem r05_Check_ok (p1:AProgram):∀r:Int,r05_Check p1 r→FC 39 [] [.agg ((row_AProgram p1).map .v)] (.w (cI r)) [] []:=by
 refine fnS 32 ?_;unfold r05_Check;refine SR ?_;refine X.box 0 ?_;refine K1 ?_;refine NV ?_;refine K2 ?_;refine X.lenT ?_;refine K1 ?_;refine NS ?_
 refine VS.cond (fun h1=>?_) (fun h1=>?_)
 ·refine SR ?_;refine K1 ?_;refine NU ?_;exact ES.ret R1
 ·refine VS.skip (ES.seq (VS.seq (VS.seq (VS.region ?_))));refine K2 ?_;refine X.lenT ?_;refine K1 ?_;refine NS ?_
  refine VS.cond (fun h2=>?_) (fun h2=>?_)
  ·refine SR ?_;refine K1 ?_;refine NU ?_;exact ES.ret R1
  ·refine VS.skip (ES.seq (VS.seq (VS.seq (VS.region ?_))));refine K2 ?_;refine X.idxT (fun h3=>?_);refine K3 ?_;refine NS ?_
   refine VS.cond (fun h4=>?_) (fun h4=>?_)
   ·refine SR ?_;refine K1 ?_;refine NU ?_;exact ES.ret R1
   ·refine VS.skip (ES.seq (VS.seq (VS.seq (VS.region ?_))));refine K1 ?_;refine NO ?_;refine VS.loop (fun (i1:Int)=>(⟨[(1,wP 0),(3,wI i1)],[some (.bx 28 ((row_AProgram p1).map .v))]⟩:St)) (j0:=0) (LSB rfl rfl rfl rfl) ?_;rintro n1 again1 ih_again1 i1;refine SS ?_;refine K3 ?_;refine X.lenT ?_;refine K1 ?_;refine NS ?_
    refine VS.cond (fun h5=>?_) (fun h5=>?_)
    ·refine KW ?_;refine K2 ?_;refine X.call true [] [] (r05_CheckFunc_ok _ _) (fun x1=>?_);refine K1 ?_;refine NR ?_;refine K2 ?_;refine NS ?_
     refine VS.cond (fun h6=>?_) (fun h6=>?_)
     ·refine SR ?_;refine K2 ?_;refine X.nil (ES.seq (VS.ret (ES.blkR (ES.thnR (ES.thnR (ES.blkR (ES.thnR ?_)))))));exact ES.ret R1
     ·refine KB ?_;refine K1 ?_;refine X.ck fun h7=>?_;refine K1 ?_;refine X.nil ?_;exact GL ih_again1
    ·refine XE ?_;refine K1 ?_;refine NT ?_;exact ES.ret R1
theorem r08_machine_enter_ok (m1:R08machine) (f1:Int):∀r:R08machine,r08_machine_enter m1 f1 r→FC 40 [(107,row_R08machine m1)] [.c (.ptr 0 0 0),cI f1] (.tup []) [] [(107,row_R08machine r)]:=by
 refine fnS 41 ?_;unfold r08_machine_enter;refine VS.seq (VS.drawn ?_);refine K3 ?_;refine K2 ?_;refine X.appNT 1 (l':=m1.acts) (fun h1=>?_);refine K3 ?_;refine K3 ?_;refine K1 ?_;refine X.idxT (fun h2=>?_);refine K2 ?_;refine X.lenT ?_;refine X.makeT 2 (α:=R08cell) row_R08cell (fun h3=>?_);refine X.makeT 3 (α:=R08cell) row_R08cell (fun h4=>?_);refine X.build ?_;refine X.bs 4 ([(⟨f1,0,(repD (((atD m1.p.Funcs f1).Slots).length:Int):List R08cell),(repD 8:List R08cell)⟩:R08activation)]:List R08activation) row_R08activation ?_;refine X.appMM 5 (l:=m1.acts) (l':=([(⟨f1,0,(repD (((atD m1.p.Funcs f1).Slots).length:Int):List R08cell),(repD 8:List R08cell)⟩:R08activation)]:List R08activation)) (fun h5=>?_);refine K2 ?_;refine X.stN [aT row_AFunc m1.p.Funcs,aU m1.regs.e0.Lo,aU m1.regs.e0.Hi,aU m1.regs.e1.Lo,aU m1.regs.e1.Hi,aU m1.regs.e2.Lo,aU m1.regs.e2.Hi,aU m1.regs.e3.Lo,aU m1.regs.e3.Hi,aU m1.regs.e4.Lo,aU m1.regs.e4.Hi,aU m1.regs.e5.Lo,aU m1.regs.e5.Hi,aU m1.regs.e6.Lo,aU m1.regs.e6.Hi,aU m1.regs.e7.Lo,aU m1.regs.e7.Hi,.mref 5,aT uRow m1.input,aI m1.deep,.v (.bool m1.done),aI m1.out.Kind,aU m1.out.Code,aU m1.out.Result.Lo,aU m1.out.Result.Hi,aT row_AValue m1.out.Trace,aI m1.out.Steps] ?_
 refine ND ?_;refine ES.seq (VS.drawn ?_);(iterate 3 refine K3 ?_);refine X.lenM (l:=(m1.acts++([(⟨f1,0,(repD (((atD m1.p.Funcs f1).Slots).length:Int):List R08cell),(repD 8:List R08cell)⟩:R08activation)]:List R08activation))) ?_;refine X.max ?_;refine K2 ?_;refine X.stN [aT row_AFunc m1.p.Funcs,aU m1.regs.e0.Lo,aU m1.regs.e0.Hi,aU m1.regs.e1.Lo,aU m1.regs.e1.Hi,aU m1.regs.e2.Lo,aU m1.regs.e2.Hi,aU m1.regs.e3.Lo,aU m1.regs.e3.Hi,aU m1.regs.e4.Lo,aU m1.regs.e4.Hi,aU m1.regs.e5.Lo,aU m1.regs.e5.Hi,aU m1.regs.e6.Lo,aU m1.regs.e6.Hi,aU m1.regs.e7.Lo,aU m1.regs.e7.Hi,.mref 5,aT uRow m1.input,aI (max m1.deep ((m1.acts++([(⟨f1,0,(repD (((atD m1.p.Funcs f1).Slots).length:Int):List R08cell),(repD 8:List R08cell)⟩:R08activation)]:List R08activation)).length:Int)),.v (.bool m1.done),aI m1.out.Kind,aU m1.out.Code,aU m1.out.Result.Lo,aU m1.out.Result.Hi,aT row_AValue m1.out.Trace,aI m1.out.Steps] ?_;refine ND ?_;refine ES.retN ?_;exact Ret.weak (St.le_tcell _ 0 17 5 rfl rfl rfl rfl) (Ret.clo [] trivial ⟨rfl,trivial⟩)
theorem r08_machine_end_ok (m1:R08machine) (kind1:Int):∀r:R08machine,r08_machine_end m1 kind1 r→FC 41 [(107,row_R08machine m1)] [.c (.ptr 0 0 0),cI kind1] (.tup []) [] [(107,row_R08machine r)]:=by
 refine fnS 12 ?_;unfold r08_machine_end;refine VS.region ?_;refine K3 ?_;refine K3 ?_;refine X.stN [aT row_AFunc m1.p.Funcs,aU m1.regs.e0.Lo,aU m1.regs.e0.Hi,aU m1.regs.e1.Lo,aU m1.regs.e1.Hi,aU m1.regs.e2.Lo,aU m1.regs.e2.Hi,aU m1.regs.e3.Lo,aU m1.regs.e3.Hi,aU m1.regs.e4.Lo,aU m1.regs.e4.Hi,aU m1.regs.e5.Lo,aU m1.regs.e5.Hi,aU m1.regs.e6.Lo,aU m1.regs.e6.Hi,aU m1.regs.e7.Lo,aU m1.regs.e7.Hi,aT row_R08activation m1.acts,aT uRow m1.input,aI m1.deep,.v (.bool m1.done),aI kind1,aU m1.out.Code,aU m1.out.Result.Lo,aU m1.out.Result.Hi,aT row_AValue m1.out.Trace,aI m1.out.Steps] ?_;refine K2 ?_;refine X.stN [aT row_AFunc m1.p.Funcs,aU m1.regs.e0.Lo,aU m1.regs.e0.Hi,aU m1.regs.e1.Lo,aU m1.regs.e1.Hi,aU m1.regs.e2.Lo,aU m1.regs.e2.Hi,aU m1.regs.e3.Lo,aU m1.regs.e3.Hi,aU m1.regs.e4.Lo,aU m1.regs.e4.Hi,aU m1.regs.e5.Lo,aU m1.regs.e5.Hi,aU m1.regs.e6.Lo,aU m1.regs.e6.Hi,aU m1.regs.e7.Lo,aU m1.regs.e7.Hi,aT row_R08activation m1.acts,aT uRow m1.input,aI m1.deep,.v (.bool true),aI kind1,aU m1.out.Code,aU m1.out.Result.Lo,aU m1.out.Result.Hi,aT row_AValue m1.out.Trace,aI m1.out.Steps] ?_
 refine X.nil ?_;refine ES.retN ?_;exact Ret.clo [] trivial ⟨rfl,trivial⟩
theorem r08_machine_read_ok (m1:R08machine) (c1:R08cell):∀r:AValue × R08machine,r08_machine_read m1 c1 r→FC 100 [(107,row_R08machine m1)] [.c (.ptr 0 0 0),.agg ((row_R08cell c1).map .v)] (.w (.agg ((row_AValue r.1).map .v))) [] [(107,row_R08machine r.2)]:=by
 refine fnS 12 ?_;unfold r08_machine_read;refine SR ?_;refine X.box 1 ?_;refine X.alloc 2 ?_;refine NV ?_;refine K3 ?_;refine NS ?_
 refine VS.cond (fun h1=>?_) (fun h1=>?_)
 ·refine VS.region ?_;refine K1 ?_;refine X.call true [] [0] (r08_machine_end_ok _ _) (fun x1=>?_);refine NR ?_;refine K2 ?_;refine X.st ?_;refine NT ?_;exact ES.ret (Ret.clo [_] ⟨⟨_,_,_,_,_,_,rfl,rfl,fits rfl,rfl⟩,trivial⟩ ⟨rfl,trivial⟩)
 ·refine KR ?_;refine K2 ?_;refine X.st ?_;refine NT ?_;exact ES.ret (Ret.clo [_] ⟨⟨_,_,_,_,_,_,rfl,rfl,fits rfl,rfl⟩,trivial⟩ ⟨rfl,trivial⟩)
theorem r02_Bytes_ok (x1:AValue) (size1:Int):∀r:List Int,r02_Bytes x1 size1 r→FC 146 [] [.agg ((row_AValue x1).map .v),cI size1] (.w (.c (.v (.tree (r.map bRow))))) [] []:=by
 refine fnS 38 ?_;unfold r02_Bytes;refine SR ?_;refine X.box 0 ?_;refine K1 ?_;refine NR ?_;refine K1 ?_;refine NV ?_;refine K1 ?_;refine NO ?_;refine VS.loop (fun jj:Int × List Int=>(⟨[(1,wI size1),(2,wP 0),(5,wM 1),(6,wI jj.1)],[some (.bx 44 ((row_AValue x1).map .v)),some (.sl 5 1 false (jj.2.map bRow))]⟩:St)) (j0:=(0,([]:List Int))) ((St.le_keep _ [1,2,5,6]).trans ((St.le_adopt _ 5 1 5 1 rfl rfl).trans (LSB rfl rfl rfl rfl))) ?_;rintro n1 again1 ih_again1 ⟨k1,out1⟩;refine SS ?_;refine K1 ?_;refine X.call true [] [] (r02_Size_ok _) (fun x2=>?_);refine K1 ?_
 refine X.bif (fun h1=>?_) (fun h1=>?_)
 ·(iterate 3 refine X.gY h1 ?_;refine K1 ?_);refine X.pT h1 ?_;refine NS ?_
  refine VS.cond (fun h2=>?_) (fun h2=>?_)
  ·refine KW ?_;refine K2 ?_;refine NS ?_
   refine VS.cond (fun h3=>?_) (fun h3=>?_)
   ·refine VS.region ?_;refine K3 ?_;refine K1 ?_;refine X.ck fun h4=>?_;refine X.shr (fun h5=>?_) (.inr rfl);refine X.convW ?_;refine X.bs 2 ([(IntKind.u8.wrap (x1.Lo / 2 ^ ((8:Int)*k1).toNat))]:List Int) bRow ?_;refine X.appMM 3 (l:=out1) (l':=([(IntKind.u8.wrap (x1.Lo / 2 ^ ((8:Int)*k1).toNat))]:List Int)) (fun h7=>?_);refine K1 ?_;refine NB ?_;refine K1 ?_;refine X.ck fun h8=>?_;refine K1 ?_;refine X.nil ?_;exact ES.go ih_again1 _ ((St.le_mvB _ 3 1 rfl rfl rfl rfl).trans (LSB rfl rfl rfl rfl))
   ·refine VS.region ?_;refine K3 ?_;refine K1 ?_;refine X.ck fun h9=>?_;refine X.ck fun h10=>?_;refine X.shr (fun h11=>?_) (.inr rfl);refine X.convW ?_;refine X.bs 2 ([(IntKind.u8.wrap (x1.Hi / 2 ^ ((8:Int)*(k1- 8)).toNat))]:List Int) bRow ?_;refine X.appMM 3 (l:=out1) (l':=([(IntKind.u8.wrap (x1.Hi / 2 ^ ((8:Int)*(k1- 8)).toNat))]:List Int)) (fun h13=>?_);refine K1 ?_;refine NB ?_;refine K1 ?_;refine X.ck fun h14=>?_;refine K1 ?_;refine X.nil ?_;exact ES.go ih_again1 _ ((St.le_mvB _ 3 1 rfl rfl rfl rfl).trans (LSB rfl rfl rfl rfl))
  ·refine XE ?_;refine K2 ?_;refine NT ?_;exact ES.ret (Ret.weak (St.le_tree _ 4 1 rfl rfl) (Ret.clo [.c (aT bRow out1)] ⟨rfl,trivial⟩ trivial))
 ·(iterate 3 refine X.gN h1 ?_);refine X.pF h1 ?_;refine NS ?_;refine VS.condF rfl ?_;refine XE ?_;refine K2 ?_;refine NT ?_;exact ES.ret (Ret.weak (St.le_tree _ 4 1 rfl rfl) (Ret.clo [.c (aT bRow out1)] ⟨rfl,trivial⟩ trivial))
theorem r02_FromBytes_ok (b1:List Int):∀r:AValue,r02_FromBytes b1 r→FC 145 [] [.c (.v (.tree (b1.map bRow)))] (.w (.agg ((row_AValue r).map .v))) [] []:=by
 refine fnS 43 ?_;unfold r02_FromBytes;refine SR ?_;refine X.alloc 0 ?_;refine NR ?_;refine X.alloc 1 ?_;refine NV ?_;refine K1 ?_;refine NO ?_;refine VS.loop (fun jj:Int × Int × Int=>(⟨[(0,wT bRow b1),(2,wP 0),(3,wP 1),(4,wI jj.1)],[some (.bx 44 [aU 0,aU 0]),some (.bx 44 [aU jj.2.1,aU jj.2.2])]⟩:St)) (j0:=(0,0,0)) (LSB rfl rfl rfl rfl) ?_;rintro n1 again1 ih_again1 ⟨k1,Lo1,Hi1⟩;refine SS ?_;refine K2 ?_;refine X.lenT ?_;refine K2 ?_
 refine X.bif (fun h1=>?_) (fun h1=>?_)
 ·(iterate 2 refine X.gY h1 ?_;refine K1 ?_);refine X.pT h1 ?_;refine NS ?_
  refine VS.cond (fun h2=>?_) (fun h2=>?_)
  ·refine KW ?_;refine K2 ?_;refine NS ?_
   refine VS.cond (fun h3=>?_) (fun h3=>?_)
   ·refine VS.drawn ?_;refine K3 ?_;refine K1 ?_;refine X.idxT (fun h4=>?_);refine K1 ?_;refine X.convU fun h5=>?_;refine K1 ?_;refine X.ck fun h6=>?_;refine X.shlU fun h7=>?_;refine X.bits ?_;refine K1 ?_;refine X.st ?_;refine ND ?_;refine ES.blkN (ES.seq (VS.region ?_));refine K1 ?_;refine X.ck fun h8=>?_;refine K1 ?_;refine X.nil ?_;exact GL ih_again1
   ·refine VS.drawn ?_;refine K3 ?_;refine K1 ?_;refine X.idxT (fun h9=>?_);refine K1 ?_;refine X.convU fun h10=>?_;refine K1 ?_;refine X.ck fun h11=>?_;refine X.ck fun h12=>?_;refine X.shlU fun h13=>?_;refine X.bits ?_;refine K1 ?_;refine X.st ?_;refine ND ?_;refine ES.blkN (ES.seq (VS.region ?_));refine K1 ?_;refine X.ck fun h14=>?_;refine K1 ?_;refine X.nil ?_;exact GL ih_again1
  ·refine XE ?_;refine K1 ?_;refine X.st ?_;refine NT ?_;exact ES.ret (Ret.clo [_] ⟨⟨_,_,_,_,_,_,rfl,rfl,fits rfl,rfl⟩,trivial⟩ trivial)
 ·(iterate 2 refine X.gN h1 ?_);refine X.pF h1 ?_;refine NS ?_;refine VS.condF rfl ?_;refine XE ?_;refine K1 ?_;refine X.st ?_;refine NT ?_;exact ES.ret (Ret.clo [_] ⟨⟨_,_,_,_,_,_,rfl,rfl,fits rfl,rfl⟩,trivial⟩ trivial)
theorem r02_Truncate_ok (x1:AValue) (size1:Int):∀r:AValue,r02_Truncate x1 size1 r→FC 101 [] [.agg ((row_AValue x1).map .v),cI size1] (.w (.agg ((row_AValue r).map .v))) [] []:=by
 refine fnS 9 ?_;unfold r02_Truncate;refine SR ?_;refine X.box 0 ?_;refine X.alloc 1 ?_;refine NR ?_;refine K2 ?_;refine X.call true [] [] (r02_Bytes_ok _ _) (fun x2=>?_);refine X.call true [] [] (r02_FromBytes_ok _) (fun x3=>?_);refine X.st ?_;refine NT ?_;exact ES.ret (Ret.clo [_] ⟨⟨_,_,_,_,_,_,rfl,rfl,fits rfl,rfl⟩,trivial⟩ trivial)
theorem r08_machine_memory_ok (m1:R08machine) (x1:AInstr):∀r:Bool × R08machine,r08_machine_memory m1 x1 r→FC 70 [(107,row_R08machine m1)] [.c (.ptr 0 0 0),.agg ((row_AInstr x1).map .v)] (.w (.c (.v (.bool r.1)))) [] [(107,row_R08machine r.2)]:=by
 refine fnS 172 ?_;unfold r08_machine_memory;refine SR ?_;refine X.box 1 ?_;refine K1 ?_;refine NR ?_;refine K3 ?_;refine K1 ?_;refine X.lenT ?_;refine X.ck fun h1=>?_;refine K1 ?_;refine NR ?_;refine K3 ?_;refine K2 ?_;refine X.idxT (fun h2=>?_);refine K1 ?_;refine X.alloc 2 ?_;refine X.st ?_;refine X.nil (ES.seq (VS.seq (VS.drawn ?_)));refine K3 ?_;refine K3 ?_;refine K1 ?_;refine X.idxT (fun h3=>?_);refine K1 ?_;refine X.alloc 3 ?_;refine X.st ?_;refine ND ?_;refine ES.seq ?_
 refine VS.join (fun jj:R08machine × List R08cell × List R08cell=>(⟨[(0,wP 0),(5,wI ((m1.acts.length:Int)- 1)),(6,wP 1)],[some (.bx 107 ((row_R08machine jj.1).map .v)),some (.bx 135 [aI ((atD m1.acts ((m1.acts.length:Int)- 1)).f),aI ((atD m1.acts ((m1.acts.length:Int)- 1)).at_),aT row_R08cell jj.2.1,aT row_R08cell jj.2.2])]⟩:St)) ?_ ?_
 ·rintro ⟨m2,slots1,args1⟩;refine SR ?_;refine K3 ?_;refine K1 ?_;refine X.appNT 2 (l':=m2.acts) (fun h4=>?_);refine K1 ?_;refine NR ?_;refine K3 ?_;refine X.idxM (l:=m2.acts) (i:=((m1.acts.length:Int)- 1)) (fun h5=>?_);refine X.set (i:=((m1.acts.length:Int)- 1)) (⟨(atD m1.acts ((m1.acts.length:Int)- 1)).f,(atD m1.acts ((m1.acts.length:Int)- 1)).at_,slots1,args1⟩:R08activation) h5 ?_;refine NR ?_;refine K3 ?_;refine K1 ?_;refine X.stN [aT row_AFunc m2.p.Funcs,aU m2.regs.e0.Lo,aU m2.regs.e0.Hi,aU m2.regs.e1.Lo,aU m2.regs.e1.Hi,aU m2.regs.e2.Lo,aU m2.regs.e2.Hi,aU m2.regs.e3.Lo,aU m2.regs.e3.Hi,aU m2.regs.e4.Lo,aU m2.regs.e4.Hi,aU m2.regs.e5.Lo,aU m2.regs.e5.Hi,aU m2.regs.e6.Lo,aU m2.regs.e6.Hi,aU m2.regs.e7.Lo,aU m2.regs.e7.Hi,.mref 2,aT uRow m2.input,aI m2.deep,.v (.bool m2.done),aI m2.out.Kind,aU m2.out.Code,aU m2.out.Result.Lo,aU m2.out.Result.Hi,aT row_AValue m2.out.Trace,aI m2.out.Steps] ?_
  refine NR ?_;refine K1 ?_;refine NT ?_;exact ES.ret (Ret.weak (St.le_tcell _ 0 17 2 rfl rfl rfl rfl) (Ret.clo [.c (.v (.bool true))] ⟨rfl,trivial⟩ ⟨rfl,trivial⟩))
 ·intro k1 ih_k1;refine SR ?_;refine K2 ?_;refine X.nil (ES.seq (VS.block (VS.seq (VS.region ?_))));refine K2 ?_;refine NS ?_
  refine VS.cond (fun h6=>?_) (fun h6=>?_)
  ·refine SR ?_;refine K3 ?_;refine K2 ?_;refine X.idxT (fun h7=>?_);refine K1 ?_;refine X.call true [] [0] (r08_machine_read_ok _ _) (fun x2=>?_);refine X.alloc 4 ?_;refine X.st ?_;refine NR ?_;refine K3 ?_;refine K2 ?_;refine NS ?_
   refine VS.cond (fun h8=>?_) (fun h8=>?_)
   ·refine VS.drawn ?_;refine K3 ?_;refine K3 ?_;refine X.idxAS (fun h9=>?_);refine X.stAS (fun i=>[aT row_AFunc x2.2.p.Funcs,aU (((Arr8AValue.set x2.2.regs i x2.1).e0).Lo),aU (((Arr8AValue.set x2.2.regs i x2.1).e0).Hi),aU (((Arr8AValue.set x2.2.regs i x2.1).e1).Lo),aU (((Arr8AValue.set x2.2.regs i x2.1).e1).Hi),aU (((Arr8AValue.set x2.2.regs i x2.1).e2).Lo),aU (((Arr8AValue.set x2.2.regs i x2.1).e2).Hi),aU (((Arr8AValue.set x2.2.regs i x2.1).e3).Lo),aU (((Arr8AValue.set x2.2.regs i x2.1).e3).Hi),aU (((Arr8AValue.set x2.2.regs i x2.1).e4).Lo),aU (((Arr8AValue.set x2.2.regs i x2.1).e4).Hi),aU (((Arr8AValue.set x2.2.regs i x2.1).e5).Lo),aU (((Arr8AValue.set x2.2.regs i x2.1).e5).Hi),aU (((Arr8AValue.set x2.2.regs i x2.1).e6).Lo),aU (((Arr8AValue.set x2.2.regs i x2.1).e6).Hi),aU (((Arr8AValue.set x2.2.regs i x2.1).e7).Lo),aU (((Arr8AValue.set x2.2.regs i x2.1).e7).Hi),aT row_R08activation x2.2.acts,aT uRow x2.2.input,aI x2.2.deep,.v (.bool x2.2.done),aI x2.2.out.Kind,aU x2.2.out.Code,aU x2.2.out.Result.Lo,aU x2.2.out.Result.Hi,aT row_AValue x2.2.out.Trace,aI x2.2.out.Steps]) 1 2 0 h9 ?_
    refine ND ?_;refine ES.blkN ?_;exact ES.jn ih_k1 _ ((St.le_drop _ 1 (Nat.le_of_ble_eq_true rfl)).trans ((St.le_mvB _ 2 1 rfl rfl rfl rfl).trans (LSB rfl rfl rfl rfl)))
   ·refine VS.skip (ES.blkN ?_);exact ES.jn ih_k1 _ ((St.le_drop _ 1 (Nat.le_of_ble_eq_true rfl)).trans ((St.le_mvB _ 2 1 rfl rfl rfl rfl).trans (LSB rfl rfl rfl rfl)))
  ·refine SR ?_;refine K2 ?_;refine NS ?_
   refine VS.cond (fun h10=>?_) (fun h10=>?_)
   ·refine SR ?_;refine K2 ?_;refine X.appNT 4 (l':=(atD m1.acts ((m1.acts.length:Int)- 1)).slots) (fun h11=>?_);refine K1 ?_;refine X.st ?_;refine X.nil (ES.seq (VS.drawn ?_));(iterate 3 refine K3 ?_);refine X.idxAS (fun h12=>?_);refine X.ldAS (fun i=> .agg ((row_AValue (Arr8AValue.at_ m1.regs i)).map .v)) 1 2 0 h12 ?_;refine K3 ?_;refine K1 ?_;refine X.idxT (fun h13=>?_);refine K2 ?_;refine X.call true [] [] (r02_Truncate_ok _ _) (fun x3=>?_);refine X.build ?_;refine X.idxM (l:=(atD m1.acts ((m1.acts.length:Int)- 1)).slots) (i:=x1.A) (fun h14=>?_);refine X.set (i:=x1.A) (⟨x3,true⟩:R08cell) h14 ?_;refine ND ?_;refine ES.blkN ?_;exact ES.jn ih_k1 _ ((St.le_tcell _ 2 2 4 rfl rfl rfl rfl).trans ((St.le_drop _ 1 (Nat.le_of_ble_eq_true rfl)).trans ((St.le_mvB _ 2 1 rfl rfl rfl rfl).trans (LSB rfl rfl rfl rfl))))
   ·refine SR ?_;refine K2 ?_;refine NS ?_
    refine VS.cond (fun h15=>?_) (fun h15=>?_)
    ·refine SR ?_;refine K3 ?_;refine K2 ?_;refine X.idxT (fun h16=>?_);refine K1 ?_;refine X.call true [] [0] (r08_machine_read_ok _ _) (fun x4=>?_);refine X.alloc 4 ?_;refine X.st ?_;refine NR ?_;refine K3 ?_;refine K2 ?_;refine NS ?_
     refine VS.cond (fun h17=>?_) (fun h17=>?_)
     ·refine SR ?_;refine K2 ?_;refine X.appNT 5 (l':=(atD m1.acts ((m1.acts.length:Int)- 1)).slots) (fun h18=>?_);refine K1 ?_;refine X.st ?_;refine NG ?_;refine K3 ?_;refine K2 ?_;refine X.build ?_;refine X.idxM (l:=(atD m1.acts ((m1.acts.length:Int)- 1)).slots) (i:=x1.A) (fun h19=>?_);refine X.set (i:=x1.A) (⟨x4.1,true⟩:R08cell) h19 ?_;refine X.nil (ES.blkN ?_);exact ES.jn ih_k1 _ ((St.le_tcell _ 2 2 5 rfl rfl rfl rfl).trans ((St.le_drop _ 1 (Nat.le_of_ble_eq_true rfl)).trans ((St.le_mvB _ 2 1 rfl rfl rfl rfl).trans (LSB rfl rfl rfl rfl))))
     ·refine VS.skip (ES.blkN ?_);exact ES.jn ih_k1 _ ((St.le_drop _ 1 (Nat.le_of_ble_eq_true rfl)).trans ((St.le_mvB _ 2 1 rfl rfl rfl rfl).trans (LSB rfl rfl rfl rfl)))
    ·refine SR ?_;refine K2 ?_;refine NS ?_
     refine VS.cond (fun h20=>?_) (fun h20=>?_)
     ·refine SR ?_;refine K2 ?_;refine X.appNT 4 (l':=(atD m1.acts ((m1.acts.length:Int)- 1)).args) (fun h21=>?_);refine K1 ?_;refine X.st ?_;refine X.nil (ES.seq (VS.drawn ?_));(iterate 3 refine K3 ?_);refine X.idxAS (fun h22=>?_);refine X.ldAS (fun i=> .agg ((row_AValue (Arr8AValue.at_ m1.regs i)).map .v)) 1 2 0 h22 ?_;refine X.build ?_;refine X.idxM (l:=(atD m1.acts ((m1.acts.length:Int)- 1)).args) (i:=x1.A) (fun h23=>?_);refine X.set (i:=x1.A) (⟨(Arr8AValue.at_ m1.regs x1.B),true⟩:R08cell) h23 ?_;refine ND ?_;refine ES.blkN ?_;exact ES.jn ih_k1 _ ((St.le_tcell _ 2 3 4 rfl rfl rfl rfl).trans ((St.le_drop _ 1 (Nat.le_of_ble_eq_true rfl)).trans ((St.le_mvB _ 2 1 rfl rfl rfl rfl).trans (LSB rfl rfl rfl rfl))))
     ·refine SR ?_;refine K2 ?_;refine NS ?_
      refine VS.cond (fun h24=>?_) (fun h24=>?_)
      ·refine VS.seq (VS.drawn ?_);refine K3 ?_;refine K3 ?_;refine X.ck fun h25=>?_;refine X.idxT (fun h26=>?_);refine K3 ?_;refine K1 ?_;refine X.idxT (fun h27=>?_);refine K1 ?_;refine X.call true [] [0] (r08_machine_read_ok _ _) (fun x5=>?_);refine X.alloc 4 ?_;refine X.st ?_;refine ND ?_;refine ES.seq ?_;refine VS.weak (s':=(⟨[(0,wP 0),(3,wP 1),(5,wI ((m1.acts.length:Int)- 1)),(6,wP 2),(10,wP 4)],[some (.bx 107 ((row_R08machine x5.2).map .v)),some (.bx 62 ((row_AInstr x1).map .v)),some (.bx 135 ((row_R08activation (atD m1.acts ((m1.acts.length:Int)- 1))).map .v)),some (.bx 60 ((row_AFunc (atD m1.p.Funcs ((atD m1.acts ((m1.acts.length:Int)- 1)).f))).map .v)),some (.bx 44 ((row_AValue x5.1).map .v))]⟩:St)) (LSB rfl rfl rfl rfl) ?_;refine SR ?_;refine K3 ?_;refine K2 ?_;refine NS ?_
       refine VS.cond (fun h28=>?_) (fun h28=>?_)
       ·refine VS.drawn ?_;refine K3 ?_;refine K3 ?_;refine X.idxAS (fun h29=>?_);refine X.stAS (fun i=>[aT row_AFunc x5.2.p.Funcs,aU (((Arr8AValue.set x5.2.regs i x5.1).e0).Lo),aU (((Arr8AValue.set x5.2.regs i x5.1).e0).Hi),aU (((Arr8AValue.set x5.2.regs i x5.1).e1).Lo),aU (((Arr8AValue.set x5.2.regs i x5.1).e1).Hi),aU (((Arr8AValue.set x5.2.regs i x5.1).e2).Lo),aU (((Arr8AValue.set x5.2.regs i x5.1).e2).Hi),aU (((Arr8AValue.set x5.2.regs i x5.1).e3).Lo),aU (((Arr8AValue.set x5.2.regs i x5.1).e3).Hi),aU (((Arr8AValue.set x5.2.regs i x5.1).e4).Lo),aU (((Arr8AValue.set x5.2.regs i x5.1).e4).Hi),aU (((Arr8AValue.set x5.2.regs i x5.1).e5).Lo),aU (((Arr8AValue.set x5.2.regs i x5.1).e5).Hi),aU (((Arr8AValue.set x5.2.regs i x5.1).e6).Lo),aU (((Arr8AValue.set x5.2.regs i x5.1).e6).Hi),aU (((Arr8AValue.set x5.2.regs i x5.1).e7).Lo),aU (((Arr8AValue.set x5.2.regs i x5.1).e7).Hi),aT row_R08activation x5.2.acts,aT uRow x5.2.input,aI x5.2.deep,.v (.bool x5.2.done),aI x5.2.out.Kind,aU x5.2.out.Code,aU x5.2.out.Result.Lo,aU x5.2.out.Result.Hi,aT row_AValue x5.2.out.Trace,aI x5.2.out.Steps]) 1 2 0 h29 ?_
        refine ND ?_;refine ES.blkN ?_;exact ES.jn ih_k1 _ ((St.le_drop _ 1 (Nat.le_of_ble_eq_true rfl)).trans ((St.le_mvB _ 2 1 rfl rfl rfl rfl).trans (LSB rfl rfl rfl rfl)))
       ·refine VS.skip (ES.blkN ?_);exact ES.jn ih_k1 _ ((St.le_drop _ 1 (Nat.le_of_ble_eq_true rfl)).trans ((St.le_mvB _ 2 1 rfl rfl rfl rfl).trans (LSB rfl rfl rfl rfl)))
      ·refine SR ?_;refine K1 ?_;refine X.nil (ES.seq (VS.ret (ES.blkR (ES.thnR ?_))));exact ES.ret (Ret.clo [_] ⟨rfl,trivial⟩ ⟨rfl,trivial⟩)
theorem r02_Pair_ok (x1:AValue) (y1:AValue):∀r:AValue,r02_Pair x1 y1 r→FC 102 [] [.agg ((row_AValue x1).map .v),.agg ((row_AValue y1).map .v)] (.w (.agg ((row_AValue r).map .v))) [] []:=by
 refine fnS 10 ?_;unfold r02_Pair;refine SR ?_;refine X.box 0 ?_;refine X.box 1 ?_;refine X.alloc 2 ?_;refine NR ?_;refine K3 ?_;refine K1 ?_;refine X.build ?_;refine X.st ?_;refine NT ?_;exact ES.ret (Ret.clo [_] ⟨⟨_,_,_,_,_,_,rfl,rfl,fits rfl,rfl⟩,trivial⟩ trivial)
theorem r02_High_ok (x1:AValue):∀r:AValue,r02_High x1 r→FC 103 [] [.agg ((row_AValue x1).map .v)] (.w (.agg ((row_AValue r).map .v))) [] []:=by
 refine fnS 6 ?_;unfold r02_High;refine SR ?_;refine X.box 0 ?_;refine X.alloc 1 ?_;refine NR ?_;refine K2 ?_;refine X.build ?_;refine X.st ?_;refine NT ?_;exact ES.ret (Ret.clo [_] ⟨⟨_,_,_,_,_,_,rfl,rfl,fits rfl,rfl⟩,trivial⟩ trivial)
theorem r02_bit_ok (x1:AValue) (k1:Int):∀r:Int,r02_bit x1 k1 r→FC 170 [] [.agg ((row_AValue x1).map .v),cI k1] (.w (.c (.v (.int .u64 r)))) [] []:=by
 refine fnS 18 ?_;unfold r02_bit;refine SR ?_;refine X.box 0 ?_;refine K1 ?_;refine NV ?_;refine K2 ?_;refine NS ?_
 refine VS.cond (fun h1=>?_) (fun h1=>?_)
 ·refine SR ?_;refine K3 ?_;refine X.shr (fun h2=>?_) (.inr rfl);refine X.bits ?_;refine K1 ?_;refine NU ?_;exact ES.ret R1
 ·refine KR ?_;refine K3 ?_;refine X.ck fun h3=>?_;refine X.shr (fun h4=>?_) (.inr rfl);refine X.bits ?_;refine K1 ?_;refine NT ?_;exact ES.ret R1
theorem r02_set_ok (x1:AValue) (k1:Int):∀r:AValue,r02_set x1 k1 r→FC 171 [] [.agg ((row_AValue x1).map .v),cI k1] (.w (.agg ((row_AValue r).map .v))) [] []:=by
 refine fnS 21 ?_;unfold r02_set;refine SR ?_;refine X.box 0 ?_;refine X.alloc 1 ?_;refine NV ?_;refine K2 ?_;refine NS ?_
 refine VS.cond (fun h1=>?_) (fun h1=>?_)
 ·refine VS.drawn ?_;refine K3 ?_;refine X.shlU fun h2=>?_;refine X.bits ?_;refine K1 ?_;refine X.st ?_;refine ND ?_;refine ES.seq (VS.seq (VS.region ?_));refine K1 ?_;refine X.st ?_;refine NT ?_;exact ES.ret (Ret.clo [_] ⟨⟨_,_,_,_,_,_,rfl,rfl,fits rfl,rfl⟩,trivial⟩ trivial)
 ·refine VS.drawn ?_;refine K3 ?_;refine X.ck fun h3=>?_;refine X.shlU fun h4=>?_;refine X.bits ?_;refine K1 ?_;refine X.st ?_;refine ND ?_;refine ES.seq (VS.seq (VS.region ?_));refine K1 ?_;refine X.st ?_;refine NT ?_;exact ES.ret (Ret.clo [_] ⟨⟨_,_,_,_,_,_,rfl,rfl,fits rfl,rfl⟩,trivial⟩ trivial)
theorem r02_Add_ok (x1:AValue) (y1:AValue):∀r:AValue,r02_Add x1 y1 r→FC 147 [] [.agg ((row_AValue x1).map .v),.agg ((row_AValue y1).map .v)] (.w (.agg ((row_AValue r).map .v))) [] []:=by
 refine fnS 31 ?_;unfold r02_Add;refine SR ?_;refine X.box 0 ?_;refine X.box 1 ?_;refine X.alloc 2 ?_;refine NR ?_;refine X.alloc 3 ?_;refine NR ?_;refine K1 ?_;refine NV ?_;refine K1 ?_;refine NO ?_;refine VS.loop (fun jj:Int × Int × AValue=>(⟨[(2,wP 0),(3,wP 1),(4,wP 2),(5,wP 3),(6,.w (.c (aU jj.1))),(7,wI jj.2.1)],[some (.bx 44 ((row_AValue x1).map .v)),some (.bx 44 ((row_AValue y1).map .v)),some (.bx 44 [aU 0,aU 0]),some (.bx 44 ((row_AValue jj.2.2).map .v))]⟩:St)) (j0:=(0,0,(⟨0,0⟩:AValue))) (LSB rfl rfl rfl rfl) ?_;rintro n1 again1 ih_again1 ⟨carry1,k1,out1⟩;refine SS ?_;refine K2 ?_;refine NS ?_
 refine VS.cond (fun h1=>?_) (fun h1=>?_)
 ·refine VS.skip (ES.seq (VS.seq (VS.block (VS.seq (VS.drawn ?_)))));refine K2 ?_;refine X.call true [] [] (r02_bit_ok _ _) (fun x2=>?_);refine K2 ?_;refine X.call true [] [] (r02_bit_ok _ _) (fun x3=>?_);refine X.addU fun h2=>?_;refine K1 ?_;refine X.addU fun h3=>?_;refine K1 ?_;refine ND ?_;refine ES.seq (VS.seq (VS.seq (VS.region ?_)));refine K1 ?_;refine X.bits ?_;refine K1 ?_;refine NS ?_
  refine VS.cond (fun h4=>?_) (fun h4=>?_)
  ·refine VS.region ?_;refine K2 ?_;refine X.call true [] [] (r02_set_ok _ _) (fun x4=>?_);refine X.st ?_;refine NG ?_;refine K1 ?_;refine X.shr (fun h5=>?_) (.inr rfl);refine K1 ?_;refine NB ?_;refine K1 ?_;refine X.ck fun h6=>?_;refine K1 ?_;refine X.nil ?_;exact GL ih_again1
  ·refine VS.skip (ES.seq (VS.region ?_));refine K1 ?_;refine X.shr (fun h7=>?_) (.inr rfl);refine K1 ?_;refine NB ?_;refine K1 ?_;refine X.ck fun h8=>?_;refine K1 ?_;refine X.nil ?_;exact GL ih_again1
 ·refine XE ?_;refine K1 ?_;refine X.st ?_;refine NT ?_;exact ES.ret (Ret.clo [_] ⟨⟨_,_,_,_,_,_,rfl,rfl,fits rfl,rfl⟩,trivial⟩ trivial)
theorem r02_Sub_ok (x1:AValue) (y1:AValue):∀r:AValue,r02_Sub x1 y1 r→FC 148 [] [.agg ((row_AValue x1).map .v),.agg ((row_AValue y1).map .v)] (.w (.agg ((row_AValue r).map .v))) [] []:=by
 refine fnS 16 ?_;unfold r02_Sub;refine SR ?_;refine X.box 0 ?_;refine X.box 1 ?_;refine X.alloc 2 ?_;refine NR ?_;refine K3 ?_;refine X.xorU ?_;refine K2 ?_;refine X.xorU ?_;refine X.build ?_;refine X.call true [] [] (r02_Add_ok _ _) (fun x2=>?_);refine X.build ?_;refine X.call true [] [] (r02_Add_ok _ _) (fun x3=>?_);refine X.st ?_;refine NT ?_;exact ES.ret (Ret.clo [_] ⟨⟨_,_,_,_,_,_,rfl,rfl,fits rfl,rfl⟩,trivial⟩ trivial)
theorem r02_twice_ok (x1:AValue):∀r:AValue,r02_twice x1 r→FC 172 [] [.agg ((row_AValue x1).map .v)] (.w (.agg ((row_AValue r).map .v))) [] []:=by
 refine fnS 14 ?_;unfold r02_twice;refine SR ?_;refine X.box 0 ?_;refine X.alloc 1 ?_;refine NR ?_;refine K2 ?_;refine X.shlW fun h1=>?_;refine K2 ?_;refine X.shlW fun h2=>?_;refine K2 ?_;refine X.shr (fun h3=>?_) (.inr rfl);refine X.bits ?_;refine X.build ?_;refine X.st ?_;refine NT ?_;exact ES.ret (Ret.clo [_] ⟨⟨_,_,_,_,_,_,rfl,rfl,fits rfl,rfl⟩,trivial⟩ trivial)
theorem r02_Mul_ok (x1:AValue) (y1:AValue):∀r:AValue,r02_Mul x1 y1 r→FC 149 [] [.agg ((row_AValue x1).map .v),.agg ((row_AValue y1).map .v)] (.w (.agg ((row_AValue r).map .v))) [] []:=by
 refine fnS 21 ?_;unfold r02_Mul;refine SR ?_;refine X.box 0 ?_;refine X.box 1 ?_;refine X.alloc 2 ?_;refine NR ?_;refine X.alloc 3 ?_;refine NV ?_;refine K1 ?_;refine NO ?_;refine VS.loop (fun jj:Int × AValue=>(⟨[(2,wP 0),(3,wP 1),(4,wP 2),(5,wP 3),(6,wI jj.1)],[some (.bx 44 ((row_AValue x1).map .v)),some (.bx 44 ((row_AValue y1).map .v)),some (.bx 44 [aU 0,aU 0]),some (.bx 44 ((row_AValue jj.2).map .v))]⟩:St)) (j0:=(127,(⟨0,0⟩:AValue))) (LSB rfl rfl rfl rfl) ?_;rintro n1 again1 ih_again1 ⟨k1,out1⟩;refine SS ?_;refine K2 ?_;refine NS ?_
 refine VS.cond (fun h1=>?_) (fun h1=>?_)
 ·refine KW ?_;refine K1 ?_;refine X.call true [] [] (r02_twice_ok _) (fun x2=>?_);refine X.st ?_;refine NR ?_;refine K2 ?_;refine X.call true [] [] (r02_bit_ok _ _) (fun x3=>?_);refine K1 ?_;refine NS ?_
  refine VS.cond (fun h2=>?_) (fun h2=>?_)
  ·refine VS.region ?_;refine K2 ?_;refine X.call true [] [] (r02_Add_ok _ _) (fun x4=>?_);refine X.st ?_;refine NB ?_;refine K1 ?_;refine X.ck fun h3=>?_;refine K1 ?_;refine X.nil ?_;exact GL ih_again1
  ·refine KB ?_;refine K1 ?_;refine X.ck fun h4=>?_;refine K1 ?_;refine X.nil ?_;exact GL ih_again1
 ·refine XE ?_;refine K1 ?_;refine X.st ?_;refine NT ?_;exact ES.ret (Ret.clo [_] ⟨⟨_,_,_,_,_,_,rfl,rfl,fits rfl,rfl⟩,trivial⟩ trivial)
theorem r02_Less_ok (x1:AValue) (y1:AValue):∀r:Bool,r02_Less x1 y1 r→FC 152 [] [.agg ((row_AValue x1).map .v),.agg ((row_AValue y1).map .v)] (.w (.c (.v (.bool r)))) [] []:=by
 refine fnS 24 ?_;unfold r02_Less;refine SR ?_;refine X.box 0 ?_;refine X.box 1 ?_;refine K1 ?_;refine NR ?_;refine K3 ?_;refine K3 ?_
 refine X.bif (fun h1=>?_) (fun h1=>?_)
 ·(iterate 6 refine X.gN h1 ?_);(iterate 5 refine X.gU ?_);refine X.gN h1 ?_;refine X.pT h1 ?_;refine K1 ?_;refine NT ?_;exact ES.ret R1
 ·(iterate 6 refine X.gY h1 ?_;refine K1 ?_)
  refine X.bif (fun h2=>?_) (fun h2=>?_)
  ·(iterate 5 refine X.gY h2 ?_;refine K1 ?_);refine X.gY h1 ?_;refine X.pT h2 ?_;refine X.pF h1 ?_;refine K1 ?_;refine NT ?_;exact ES.ret R1
  ·(iterate 5 refine X.gN h2 ?_);refine X.gY h1 ?_;refine X.pF h2 ?_;refine X.pF h1 ?_;refine K1 ?_;refine NT ?_;exact ES.ret R1
theorem r02_Div_ok (x1:AValue) (y1:AValue):∀r:AValue,r02_Div x1 y1 r→FC 150 [] [.agg ((row_AValue x1).map .v),.agg ((row_AValue y1).map .v)] (.w (.agg ((row_AValue r).map .v))) [] []:=by
 refine fnS 40 ?_;unfold r02_Div;refine SR ?_;refine X.box 0 ?_;refine X.box 1 ?_;refine X.alloc 2 ?_;refine NR ?_;refine X.alloc 3 ?_;refine X.alloc 4 ?_;refine NV ?_;refine K1 ?_;refine NO ?_;refine VS.loop (fun jj:Int × AValue × AValue=>(⟨[(2,wP 0),(3,wP 1),(4,wP 2),(5,wP 3),(6,wP 4),(7,wI jj.1)],[some (.bx 44 ((row_AValue x1).map .v)),some (.bx 44 ((row_AValue y1).map .v)),some (.bx 44 [aU 0,aU 0]),some (.bx 44 ((row_AValue jj.2.1).map .v)),some (.bx 44 ((row_AValue jj.2.2).map .v))]⟩:St)) (j0:=(127,(⟨0,0⟩:AValue),(⟨0,0⟩:AValue))) (LSB rfl rfl rfl rfl) ?_;rintro n1 again1 ih_again1 ⟨k1,out1,rest1⟩;refine SS ?_;refine K2 ?_;refine NS ?_
 refine VS.cond (fun h1=>?_) (fun h1=>?_)
 ·refine KW ?_;refine K2 ?_;refine X.shr (fun h2=>?_) (.inr rfl);refine K2 ?_;refine NR ?_;refine K1 ?_;refine X.call true [] [] (r02_twice_ok _) (fun x2=>?_);refine X.st ?_;refine X.nil (ES.seq (VS.seq (VS.drawn ?_)));refine K3 ?_;refine K1 ?_;refine X.call true [] [] (r02_bit_ok _ _) (fun x3=>?_);refine X.bits ?_;refine K1 ?_;refine X.st ?_;refine ND ?_;refine ES.seq (VS.seq (VS.region ?_));refine K2 ?_
  refine X.bif (fun h3=>?_) (fun h3=>?_)
  ·(iterate 4 refine X.gN h3 ?_);refine X.pT h3 ?_;refine NS ?_;refine VS.condT rfl ?_;refine SR ?_;refine K2 ?_;refine X.call true [] [] (r02_Sub_ok _ _) (fun x4=>?_);refine X.st ?_;refine NG ?_;refine K2 ?_;refine X.call true [] [] (r02_set_ok _ _) (fun x5=>?_);refine X.st ?_;refine NB ?_;refine K1 ?_;refine X.ck fun h4=>?_;refine K1 ?_;refine X.nil ?_;exact GL ih_again1
  ·(iterate 2 refine X.gY h3 ?_;refine K1 ?_);refine X.gY h3 ?_;refine X.call true [] [] (r02_Less_ok _ _) (fun x6=>?_);refine X.gY h3 ?_;refine K1 ?_;refine X.pF h3 ?_;refine NS ?_
   refine VS.cond (fun h5=>?_) (fun h5=>?_)
   ·refine SR ?_;refine K2 ?_;refine X.call true [] [] (r02_Sub_ok _ _) (fun x7=>?_);refine X.st ?_;refine NG ?_;refine K2 ?_;refine X.call true [] [] (r02_set_ok _ _) (fun x8=>?_);refine X.st ?_;refine NB ?_;refine K1 ?_;refine X.ck fun h6=>?_;refine K1 ?_;refine X.nil ?_;exact GL ih_again1
   ·refine KB ?_;refine K1 ?_;refine X.ck fun h7=>?_;refine K1 ?_;refine X.nil ?_;exact GL ih_again1
 ·refine XE ?_;refine K1 ?_;refine X.st ?_;refine NT ?_;exact ES.ret (Ret.clo [_] ⟨⟨_,_,_,_,_,_,rfl,rfl,fits rfl,rfl⟩,trivial⟩ trivial)
theorem r02_truth_ok (b1:Bool):∀r:AValue,r02_truth b1 r→FC 151 [] [.c (.v (.bool b1))] (.w (.agg ((row_AValue r).map .v))) [] []:=by
 refine fnS 6 ?_;unfold r02_truth;refine SR ?_;refine X.alloc 0 ?_;refine NV ?_;refine K1 ?_;refine NS ?_
 refine VS.cond (fun h1=>?_) (fun h1=>?_)
 ·refine SR ?_;refine X.build ?_;refine X.st ?_;refine NU ?_;exact ES.ret (Ret.clo [_] ⟨⟨_,_,_,_,_,_,rfl,rfl,fits rfl,rfl⟩,trivial⟩ trivial)
 ·refine KR ?_;refine X.build ?_;refine X.st ?_;refine NT ?_;exact ES.ret (Ret.clo [_] ⟨⟨_,_,_,_,_,_,rfl,rfl,fits rfl,rfl⟩,trivial⟩ trivial)
theorem r02_Apply_ok (op1:Int) (x1:AValue) (y1:AValue):∀r:AValue × Bool,r02_Apply op1 x1 y1 r→FC 104 [] [cI op1,.agg ((row_AValue x1).map .v),.agg ((row_AValue y1).map .v)] (.tup [.agg ((row_AValue r.1).map .v),.c (.v (.bool r.2))]) [] []:=by
 refine fnS 90 ?_;unfold r02_Apply;refine SR ?_;refine X.box 0 ?_;refine X.box 1 ?_;refine X.alloc 2 ?_;refine K1 ?_;refine NV ?_;refine K1 ?_;refine X.nil (ES.seq (VS.block (VS.seq (VS.region ?_))));refine K2 ?_;refine NS ?_
 refine VS.cond (fun h1=>?_) (fun h1=>?_)
 ·refine SR ?_;refine K2 ?_;refine X.call true [] [] (r02_Add_ok _ _) (fun x2=>?_);refine X.st ?_;refine K1 ?_;refine X.nil (ES.seq (VS.ret (ES.blkR (ES.thnR ?_))));exact ES.ret (Ret.clo [_,_] ⟨⟨_,_,_,_,_,_,rfl,rfl,fits rfl,rfl⟩,rfl,trivial⟩ trivial)
 ·refine SR ?_;refine K2 ?_;refine NS ?_
  refine VS.cond (fun h2=>?_) (fun h2=>?_)
  ·refine SR ?_;refine K2 ?_;refine X.call true [] [] (r02_Sub_ok _ _) (fun x3=>?_);refine X.st ?_;refine K1 ?_;refine X.nil (ES.seq (VS.ret (ES.blkR (ES.thnR ?_))));exact ES.ret (Ret.clo [_,_] ⟨⟨_,_,_,_,_,_,rfl,rfl,fits rfl,rfl⟩,rfl,trivial⟩ trivial)
  ·refine SR ?_;refine K2 ?_;refine NS ?_
   refine VS.cond (fun h3=>?_) (fun h3=>?_)
   ·refine SR ?_;refine K2 ?_;refine X.call true [] [] (r02_Mul_ok _ _) (fun x4=>?_);refine X.st ?_;refine K1 ?_;refine X.nil (ES.seq (VS.ret (ES.blkR (ES.thnR ?_))));exact ES.ret (Ret.clo [_,_] ⟨⟨_,_,_,_,_,_,rfl,rfl,fits rfl,rfl⟩,rfl,trivial⟩ trivial)
   ·refine SR ?_;refine K2 ?_;refine NS ?_
    refine VS.cond (fun h4=>?_) (fun h4=>?_)
    ·refine VS.join (fun (_:Unit)=>(⟨[(4,wP 0),(5,wP 1),(6,wP 2)],[some (.bx 44 ((row_AValue x1).map .v)),some (.bx 44 ((row_AValue y1).map .v)),some (.bx 44 [aU 0,aU 0])]⟩:St)) ?_ ?_
     ·rintro ⟨⟩;refine SR ?_;refine K2 ?_;refine X.call true [] [] (r02_Div_ok _ _) (fun x5=>?_);refine X.st ?_;refine K1 ?_;refine X.nil (ES.seq (VS.ret (ES.blkR (ES.thnR ?_))));exact ES.ret (Ret.clo [_,_] ⟨⟨_,_,_,_,_,_,rfl,rfl,fits rfl,rfl⟩,rfl,trivial⟩ trivial)
     ·intro k1 ih_k1;refine SR ?_;refine K3 ?_;refine K1 ?_
      refine X.bif (fun h5=>?_) (fun h5=>?_)
      ·(iterate 3 refine X.gY h5 ?_;refine K1 ?_);refine X.pT h5 ?_;refine NS ?_
       refine VS.cond (fun h6=>?_) (fun h6=>?_)
       ·refine SR ?_;refine X.build ?_;refine X.st ?_;refine K1 ?_;refine X.nil (ES.seq (VS.ret (ES.thnR (ES.blkR (ES.thnR ?_)))));exact ES.ret (Ret.clo [_,_] ⟨⟨_,_,_,_,_,_,rfl,rfl,fits rfl,rfl⟩,rfl,trivial⟩ trivial)
       ·refine VS.skip ?_;exact JL ih_k1
      ·(iterate 3 refine X.gN h5 ?_);refine X.pF h5 ?_;refine NS ?_;refine VS.condF rfl ?_;refine VS.skip ?_;exact JL ih_k1
    ·refine SR ?_;refine K2 ?_;refine NS ?_
     refine VS.cond (fun h7=>?_) (fun h7=>?_)
     ·refine SR ?_;(iterate 2 refine K3 ?_;refine K1 ?_;refine X.bits ?_);refine X.build ?_;refine X.st ?_;refine K1 ?_;refine X.nil (ES.seq (VS.ret (ES.blkR (ES.thnR ?_))));exact ES.ret (Ret.clo [_,_] ⟨⟨_,_,_,_,_,_,rfl,rfl,fits rfl,rfl⟩,rfl,trivial⟩ trivial)
     ·refine SR ?_;refine K2 ?_;refine NS ?_
      refine VS.cond (fun h8=>?_) (fun h8=>?_)
      ·refine SR ?_;(iterate 2 refine K3 ?_;refine K1 ?_;refine X.bits ?_);refine X.build ?_;refine X.st ?_;refine K1 ?_;refine X.nil (ES.seq (VS.ret (ES.blkR (ES.thnR ?_))));exact ES.ret (Ret.clo [_,_] ⟨⟨_,_,_,_,_,_,rfl,rfl,fits rfl,rfl⟩,rfl,trivial⟩ trivial)
      ·refine SR ?_;refine K2 ?_;refine NS ?_
       refine VS.cond (fun h9=>?_) (fun h9=>?_)
       ·refine SR ?_;(iterate 2 refine K3 ?_;refine K1 ?_;refine X.bits ?_);refine X.build ?_;refine X.st ?_;refine K1 ?_;refine X.nil (ES.seq (VS.ret (ES.blkR (ES.thnR ?_))));exact ES.ret (Ret.clo [_,_] ⟨⟨_,_,_,_,_,_,rfl,rfl,fits rfl,rfl⟩,rfl,trivial⟩ trivial)
       ·refine SR ?_;refine K2 ?_;refine NS ?_
        refine VS.cond (fun h10=>?_) (fun h10=>?_)
        ·refine SR ?_;refine K2 ?_;refine X.call true [] [] (r02_Less_ok _ _) (fun x6=>?_);refine X.call true [] [] (r02_truth_ok _) (fun x7=>?_);refine X.st ?_;refine K1 ?_;refine X.nil (ES.seq (VS.ret (ES.blkR (ES.thnR ?_))));exact ES.ret (Ret.clo [_,_] ⟨⟨_,_,_,_,_,_,rfl,rfl,fits rfl,rfl⟩,rfl,trivial⟩ trivial)
        ·refine SR ?_;refine K2 ?_;refine NS ?_
         refine VS.cond (fun h11=>?_) (fun h11=>?_)
         ·refine SR ?_;refine K2 ?_;refine X.eqA row_AValue x1 y1 same_AValue ?_;refine X.call true [] [] (r02_truth_ok _) (fun x8=>?_);refine X.st ?_;refine K1 ?_;refine X.nil (ES.seq (VS.ret (ES.blkR (ES.thnR ?_))));exact ES.ret (Ret.clo [_,_] ⟨⟨_,_,_,_,_,_,rfl,rfl,fits rfl,rfl⟩,rfl,trivial⟩ trivial)
         ·refine VS.skip (ES.blkN (ES.seq (VS.seq (VS.region ?_))));refine X.build ?_;refine X.st ?_;refine K1 ?_;refine NT ?_;exact ES.ret (Ret.clo [_,_] ⟨⟨_,_,_,_,_,_,rfl,rfl,fits rfl,rfl⟩,rfl,trivial⟩ trivial)
end Go.Proofs.YtgbkhjllbgmdcaaGreat.Q
