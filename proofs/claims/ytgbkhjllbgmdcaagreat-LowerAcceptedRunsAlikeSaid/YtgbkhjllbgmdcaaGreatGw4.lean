/- Walks of functions: the code does what the lifted text says (written by a program). -/
import Derived.Test.YtgbkhjllbgmdcaaGreatLR
import Derived.Test.YtgbkhjllbgmdcaaGreatGw3
set_option linter.unusedVariables false
set_option linter.unusedSimpArgs false
set_option maxRecDepth 8000
namespace Go.Proofs.YtgbkhjllbgmdcaaGreat.Q
open Go.RowKit
set_option maxHeartbeats 4000000
theorem r04_good_ok (n1:Int):∀r:Bool,r04_good n1 r→FC 91 [] [cI n1] (.w (.c (.v (.bool r)))) [] []:=by
 refine fnS 9 ?_;unfold r04_good;refine SR ?_;refine K1 ?_;refine NR ?_;refine K3 ?_
 refine X.bif (fun h1=>?_) (fun h1=>?_)
 ·(iterate 2 refine X.gY h1 ?_;refine K1 ?_);refine X.pT h1 ?_;refine K1 ?_;refine NT ?_;exact ES.ret R1
 ·(iterate 2 refine X.gN h1 ?_);refine X.pF h1 ?_;refine K1 ?_;refine NT ?_;exact ES.ret R1
theorem r04_Add_ok (s1:List Int) (n1:Int):∀r:List Int,r04_Add s1 n1 r→FC 54 [] [.c (.v (.tree (s1.map iRow))),cI n1] (.w (.c (.v (.tree (r.map iRow))))) [] []:=by
 refine fnS 51 ?_;unfold r04_Add;refine SR ?_;(iterate 2 refine K1 ?_;refine NR ?_);refine K1 ?_;refine X.call true [] [] (r04_good_ok _) (fun x1=>?_);refine K2 ?_;refine NV ?_;refine K1 ?_;refine NO ?_;refine VS.loop (fun jj:Bool × Int × List Int=>(⟨[(0,wT iRow s1),(1,wI n1),(5,wM 0),(6,.w (.c (.v (.bool jj.1)))),(7,wI jj.2.1)],[some (.sl 3 1 false (jj.2.2.map iRow))]⟩:St)) (j0:=((!x1),0,([]:List Int))) ((St.le_keep _ [0,1,5,6,7]).trans ((St.le_adopt _ 5 0 3 1 rfl rfl).trans (LSB rfl rfl rfl rfl))) ?_;rintro n2 again1 ih_again1 ⟨done1,i1,out1⟩;refine SS ?_;refine K2 ?_;refine X.lenT ?_;refine K1 ?_;refine NS ?_
 refine VS.cond (fun h1=>?_) (fun h1=>?_)
 ·refine VS.skip (ES.seq (VS.seq (VS.block ?_)))
  refine VS.join (fun jj:Bool × List Int=>(⟨[(0,wT iRow s1),(1,wI n1),(5,wM 0),(6,.w (.c (.v (.bool jj.1)))),(7,wI i1)],[some (.sl 3 1 false (jj.2.map iRow))]⟩:St)) ?_ ?_
  ·rintro ⟨done2,out2⟩;refine VS.region ?_;refine K3 ?_;refine X.idxT (fun h2=>?_);refine K1 ?_;refine X.bs 1 ([(atD s1 i1)]:List Int) iRow ?_;refine X.appMM 2 (l:=out2) (l':=([(atD s1 i1)]:List Int)) (fun h3=>?_);refine K1 ?_;refine NB ?_;refine K1 ?_;refine X.ck fun h4=>?_;refine K1 ?_;refine X.nil ?_;exact ES.go ih_again1 _ ((St.le_mvB _ 2 0 rfl rfl rfl rfl).trans (LSB rfl rfl rfl rfl))
  ·intro k1 ih_k1;refine SR ?_;refine K3 ?_
   refine X.bif (fun h5=>?_) (fun h5=>?_)
   ·(iterate 2 refine X.gY h5 ?_;refine K1 ?_);refine X.gY h5 ?_;refine X.idxT (fun h6=>?_);(iterate 3 refine X.gY h5 ?_;refine K1 ?_);refine X.pT h5 ?_;refine NS ?_
    refine VS.cond (fun h7=>?_) (fun h7=>?_)
    ·refine SS ?_;refine K2 ?_;refine X.idxT (fun h8=>?_);refine K3 ?_;refine NS ?_
     refine VS.cond (fun h9=>?_) (fun h9=>?_)
     ·refine VS.region ?_;refine K2 ?_;refine X.bs 1 ([n1]:List Int) iRow ?_;refine X.appMM 2 (l:=out1) (l':=([n1]:List Int)) (fun h10=>?_);refine K1 ?_;refine NG ?_;refine K1 ?_;refine X.nil ?_;exact ES.jn ih_k1 _ ((St.le_mvB _ 2 0 rfl rfl rfl rfl).trans (LSB rfl rfl rfl rfl))
     ·refine VS.skip (ES.seq (VS.region ?_));refine K1 ?_;refine X.nil ?_;exact JL ih_k1
    ·refine VS.skip ?_;exact JL ih_k1
   ·(iterate 6 refine X.gN h5 ?_);refine X.pF h5 ?_;refine NS ?_;refine VS.condF rfl ?_;refine VS.skip ?_;exact JL ih_k1
 ·refine VS.exit (ES.thnE (ES.thnE (ES.blkE (ES.seq (VS.seq (VS.seq (VS.region ?_)))))));refine K2 ?_;refine NS ?_
  refine VS.cond (fun h11=>?_) (fun h11=>?_)
  ·refine VS.region ?_;refine K2 ?_;refine X.bs 1 ([n1]:List Int) iRow ?_;refine X.appMM 2 (l:=out1) (l':=([n1]:List Int)) (fun h12=>?_);refine K1 ?_;refine NR ?_;refine K2 ?_;refine NT ?_;exact ES.ret (Ret.weak (St.le_tree _ 4 2 rfl rfl) (Ret.clo [.c (aT iRow (out1++([n1]:List Int)))] ⟨rfl,trivial⟩ trivial))
  ·refine KR ?_;refine K2 ?_;refine NT ?_;exact ES.ret (Ret.weak (St.le_tree _ 4 0 rfl rfl) (Ret.clo [.c (aT iRow out1)] ⟨rfl,trivial⟩ trivial))
theorem r04_Union_ok (a1:List Int) (b1:List Int):∀r:List Int,r04_Union a1 b1 r→FC 135 [] [.c (.v (.tree (a1.map iRow))),.c (.v (.tree (b1.map iRow)))] (.w (.c (.v (.tree (r.map iRow))))) [] []:=by
 refine fnS 22 ?_;unfold r04_Union;refine SR ?_;refine K1 ?_;refine NR ?_;refine K1 ?_;refine X.appNT 0 (l':=a1) (fun h1=>?_);refine K1 ?_;refine NV ?_;refine K1 ?_;refine NO ?_;refine VS.loop (fun jj:List Int × Int=>(⟨[(1,wT iRow b1),(5,wT iRow jj.1),(6,wI jj.2)],[]⟩:St)) (j0:=(a1,0)) ((St.le_tree _ 5 0 rfl rfl).trans (LSB rfl rfl rfl rfl)) ?_;rintro n1 again1 ih_again1 ⟨out1,i1⟩;refine SS ?_;refine K2 ?_;refine X.lenT ?_;refine K1 ?_;refine NS ?_
 refine VS.cond (fun h2=>?_) (fun h2=>?_)
 ·refine VS.skip (ES.seq (VS.seq (VS.block (VS.region ?_))));refine K3 ?_;refine X.idxT (fun h3=>?_);refine K1 ?_;refine X.call true [] [] (r04_Add_ok _ _) (fun x1=>?_);refine K1 ?_;refine NB ?_;refine K1 ?_;refine X.ck fun h4=>?_;refine K1 ?_;refine X.nil ?_;exact GL ih_again1
 ·refine XE ?_;refine K2 ?_;refine NT ?_;exact ES.ret R1
theorem r15_In_ok (x1:AInstr) (out1:List Int):∀r:List Int,r15_In x1 out1 r→FC 136 [] [.agg ((row_AInstr x1).map .v),.c (.v (.tree (out1.map iRow)))] (.w (.c (.v (.tree (r.map iRow))))) [] []:=by
 refine fnS 20 ?_;unfold r15_In;refine SR ?_;refine X.box 0 ?_;refine K1 ?_;refine NS ?_
 refine VS.join (fun (out2:List Int)=>(⟨[(1,wT iRow out2),(2,wP 0)],[some (.bx 62 ((row_AInstr x1).map .v))]⟩:St)) ?_ ?_
 ·rintro out2;refine SR ?_;refine K2 ?_;refine X.call true [] [] (r15_Uses_ok _) (fun x2=>?_);refine X.call true [] [] (r04_Union_ok _ _) (fun x3=>?_);refine K1 ?_;refine NT ?_;exact ES.ret R1
 ·intro k1 ih_k1;refine SR ?_;refine K1 ?_;refine X.call true [] [] (r15_Defines_ok _) (fun x4=>?_);refine K3 ?_;refine K2 ?_;refine NR ?_;refine K1 ?_;refine NS ?_
  refine VS.cond (fun h1=>?_) (fun h1=>?_)
  ·refine VS.region ?_;refine K2 ?_;refine X.call true [] [] (r04_Remove_ok _ _) (fun x5=>?_);refine K1 ?_;refine X.nil ?_;exact JL ih_k1
  ·refine VS.skip ?_;exact JL ih_k1
theorem r16_Step_ok (f1:AFunc) (l1:ALive):∀r:ALive,r16_Step f1 l1 r→FC 89 [] [.agg ((row_AFunc f1).map .v),.agg ((row_ALive l1).map .v)] (.w (.agg ((row_ALive r).map .v))) [] []:=by
 refine fnS 57 ?_;unfold r16_Step;refine SR ?_;refine X.box 0 ?_;refine X.box 1 ?_;refine X.alloc 2 ?_;refine NR ?_;refine K2 ?_;refine X.lenT ?_;refine X.make 3 (α:=List Int) (sR iRow) (fun h1=>?_);refine X.build ?_;refine X.alloc 4 ?_;refine X.st ?_;refine NV ?_;refine K1 ?_;refine NO ?_;refine VS.loop (fun jj:Int × List (List Int)=>(⟨[(2,wP 0),(3,wP 1),(4,wP 2),(5,wP 3),(6,wI jj.1)],[some (.bx 60 ((row_AFunc f1).map .v)),some (.bx 87 ((row_ALive l1).map .v)),some (.bx 87 [aT (sR iRow) ([]:List (List Int))]),some (.bx 87 [.mref 4]),some (.sl 64 1 false (jj.2.map (sR iRow)))]⟩:St)) (j0:=(0,(repD (f1.Code.length:Int):List (List Int)))) ((St.le_mvB _ 3 6 rfl rfl rfl rfl).trans ((St.le_mvB _ 4 3 rfl rfl rfl rfl).trans ((St.le_mvB _ 6 4 rfl rfl rfl rfl).trans (LSB rfl rfl rfl rfl)))) ?_;rintro n1 again1 ih_again1 ⟨k1,own1⟩;refine SS ?_;refine K3 ?_;refine X.lenT ?_;refine K1 ?_
 refine NS ?_
 refine VS.cond (fun h2=>?_) (fun h2=>?_)
 ·refine KW ?_;refine K2 ?_;refine X.call true [] [] (r13_Next_ok _ _) (fun x1=>?_);refine K1 ?_;refine NR ?_;refine K1 ?_;refine NO ?_;refine VS.loop (fun jj:Int × List (List Int)=>(⟨[(2,wP 0),(3,wP 1),(4,wP 2),(5,wP 3),(6,wI k1),(7,wT iRow x1),(8,wI jj.1)],[some (.bx 60 ((row_AFunc f1).map .v)),some (.bx 87 ((row_ALive l1).map .v)),some (.bx 87 [aT (sR iRow) ([]:List (List Int))]),some (.bx 87 [.mref 4]),some (.sl 64 1 false (jj.2.map (sR iRow)))]⟩:St)) (j0:=(0,own1)) (LSB rfl rfl rfl rfl) ?_;rintro n2 again2 ih_again2 ⟨i1,own2⟩;refine SS ?_;refine K2 ?_;refine X.lenT ?_;refine K1 ?_;refine NS ?_
  refine VS.cond (fun h3=>?_) (fun h3=>?_)
  ·refine KW ?_;refine K2 ?_;refine X.idxT (fun h4=>?_);refine K2 ?_;refine X.nil (ES.seq (VS.drawn ?_));refine K3 ?_;refine K3 ?_;refine X.idxM (l:=own2) (i:=k1) (fun h5=>?_);refine X.ld (i:=k1) h5 ?_;refine K3 ?_;refine X.idxT (fun h6=>?_);refine K3 ?_;refine K1 ?_;refine X.idxT (fun h7=>?_);refine K1 ?_;refine X.call true [] [] (r15_In_ok _ _) (fun x2=>?_);refine X.call true [] [] (r04_Union_ok _ _) (fun x3=>?_);refine X.idxM (l:=own2) (i:=k1) (fun h8=>?_);refine X.set (i:=k1) x3 h8 ?_;refine ND ?_;refine ES.blkN (ES.seq (VS.region ?_));refine K1 ?_;refine X.ck fun h9=>?_;refine K1 ?_;refine X.nil ?_;exact GL ih_again2
  ·refine VS.exit (ES.thnE (ES.thnE (ES.blkE (ES.blkN (ES.seq (VS.region ?_))))));refine K1 ?_;refine X.ck fun h10=>?_;refine K1 ?_;refine X.nil ?_;exact GL ih_again1
 ·refine XE ?_;refine K1 ?_;refine X.st ?_;refine NT ?_;exact ES.ret (Ret.weak (St.le_tcell _ 2 0 4 rfl rfl rfl rfl) (Ret.clo [.agg ((row_ALive (⟨own1⟩:ALive)).map .v)] ⟨⟨_,_,_,_,_,_,rfl,rfl,fits rfl,rfl⟩,trivial⟩ trivial))
theorem r04_Same_ok (a1:List Int) (b1:List Int):∀r:Bool,r04_Same a1 b1 r→FC 168 [] [.c (.v (.tree (a1.map iRow))),.c (.v (.tree (b1.map iRow)))] (.w (.c (.v (.bool r)))) [] []:=by
 refine fnS 26 ?_;unfold r04_Same;refine SR ?_;refine K1 ?_;refine NV ?_;(iterate 2 refine K1 ?_;refine X.lenT ?_);refine K1 ?_;refine NS ?_
 refine VS.cond (fun h1=>?_) (fun h1=>?_)
 ·refine SR ?_;refine K1 ?_;refine NU ?_;exact ES.ret R1
 ·refine VS.skip (ES.seq (VS.seq (VS.seq (VS.region ?_))));refine K1 ?_;refine NO ?_;refine VS.loop (fun (i1:Int)=>(⟨[(0,wT iRow a1),(1,wT iRow b1),(5,wI i1)],[]⟩:St)) (j0:=0) (LSB rfl rfl rfl rfl) ?_;rintro n1 again1 ih_again1 i1;refine SS ?_;refine K2 ?_;refine X.lenT ?_;refine K1 ?_;refine NS ?_
  refine VS.cond (fun h2=>?_) (fun h2=>?_)
  ·refine VS.skip (ES.seq (VS.seq (VS.block (VS.seq (VS.drawn ?_)))));refine K2 ?_;refine X.idxT (fun h3=>?_);refine K3 ?_;refine X.idxT (fun h4=>?_);refine K2 ?_;refine ND ?_;refine ES.seq ?_
   refine VS.cond (fun h5=>?_) (fun h5=>?_)
   ·refine SR ?_;refine K1 ?_;refine X.nil (ES.seq (VS.ret (ES.blkR (ES.thnR (ES.thnR (ES.blkR (ES.thnR ?_)))))));exact ES.ret R1
   ·refine KB ?_;refine K1 ?_;refine X.ck fun h6=>?_;refine K1 ?_;refine X.nil ?_;exact GL ih_again1
  ·refine XE ?_;refine K1 ?_;refine NT ?_;exact ES.ret R1
theorem r04_SameAll_ok (a1:List (List Int)) (b1:List (List Int)):∀r:Bool,r04_SameAll a1 b1 r→FC 137 [] [.c (.v (.tree (a1.map (sR iRow)))),.c (.v (.tree (b1.map (sR iRow))))] (.w (.c (.v (.bool r)))) [] []:=by
 refine fnS 27 ?_;unfold r04_SameAll;refine SR ?_;refine K1 ?_;refine NV ?_;(iterate 2 refine K1 ?_;refine X.lenT ?_);refine K1 ?_;refine NS ?_
 refine VS.cond (fun h1=>?_) (fun h1=>?_)
 ·refine SR ?_;refine K1 ?_;refine NU ?_;exact ES.ret R1
 ·refine VS.skip (ES.seq (VS.seq (VS.seq (VS.region ?_))));refine K1 ?_;refine NO ?_;refine VS.loop (fun (i1:Int)=>(⟨[(0,wT (sR iRow) a1),(1,wT (sR iRow) b1),(5,wI i1)],[]⟩:St)) (j0:=0) (LSB rfl rfl rfl rfl) ?_;rintro n1 again1 ih_again1 i1;refine SS ?_;refine K2 ?_;refine X.lenT ?_;refine K1 ?_;refine NS ?_
  refine VS.cond (fun h2=>?_) (fun h2=>?_)
  ·refine VS.skip (ES.seq (VS.seq (VS.block (VS.seq (VS.drawn ?_)))));refine K2 ?_;refine X.idxT (fun h3=>?_);refine K3 ?_;refine X.idxT (fun h4=>?_);refine K1 ?_;refine X.call true [] [] (r04_Same_ok _ _) (fun x1=>?_);refine K1 ?_;refine ND ?_;refine ES.seq ?_
   refine VS.cond (fun h5=>?_) (fun h5=>?_)
   ·refine SR ?_;refine K1 ?_;refine X.nil (ES.seq (VS.ret (ES.blkR (ES.thnR (ES.thnR (ES.blkR (ES.thnR ?_)))))));exact ES.ret R1
   ·refine KB ?_;refine K1 ?_;refine X.ck fun h6=>?_;refine K1 ?_;refine X.nil ?_;exact GL ih_again1
  ·refine XE ?_;refine K1 ?_;refine NT ?_;exact ES.ret R1
theorem r16_Same_ok (a1:ALive) (b1:ALive):∀r:Bool,r16_Same a1 b1 r→FC 90 [] [.agg ((row_ALive a1).map .v),.agg ((row_ALive b1).map .v)] (.w (.c (.v (.bool r)))) [] []:=by
 refine fnS 10 ?_;unfold r16_Same;refine SR ?_;refine X.box 0 ?_;refine X.box 1 ?_;refine K1 ?_;refine NR ?_;refine K3 ?_;refine K1 ?_;refine X.call true [] [] (r04_SameAll_ok _ _) (fun x1=>?_);refine K1 ?_;refine NT ?_;exact ES.ret R1
theorem r16_Solve_ok (f1:AFunc):∀r:ALive,r16_Solve f1 r→FC 53 [] [.agg ((row_AFunc f1).map .v)] (.w (.agg ((row_ALive r).map .v))) [] []:=by
 refine fnS 18 ?_;unfold r16_Solve;refine SR ?_;refine X.box 0 ?_;refine X.alloc 1 ?_;refine NR ?_;refine K2 ?_;refine X.lenT ?_;refine X.make 2 (α:=List Int) (sR iRow) (fun h1=>?_);refine X.build ?_;refine X.alloc 3 ?_;refine X.st ?_;refine NO ?_;refine VS.loop (fun (Out1:List (List Int))=>(⟨[(1,wP 0),(2,wP 1),(3,wP 2)],[some (.bx 60 ((row_AFunc f1).map .v)),some (.bx 87 [aT (sR iRow) ([]:List (List Int))]),some (.bx 87 [aT (sR iRow) Out1])]⟩:St)) (j0:=(repD (f1.Code.length:Int):List (List Int))) ((St.le_tcell _ 3 0 2 rfl rfl rfl rfl).trans ((St.le_drop _ 2 (Nat.le_of_ble_eq_true rfl)).trans ((St.le_mvB _ 3 2 rfl rfl rfl rfl).trans (LSB rfl rfl rfl rfl)))) ?_;rintro n1 again1 ih_again1 Out1;refine VS.block (VS.seq (VS.region ?_));refine K2 ?_;refine X.call true [] [] (r16_Step_ok _ _) (fun x1=>?_);refine X.alloc 3 ?_;refine X.st ?_;refine NV ?_;refine K2 ?_;refine X.call true [] [] (r16_Same_ok _ _) (fun x2=>?_);refine NS ?_
 refine VS.cond (fun h2=>?_) (fun h2=>?_)
 ·refine SR ?_;refine K1 ?_;refine X.st ?_;refine X.nil (ES.seq (VS.ret (ES.thnR (ES.blkR (ES.thnR (ES.blkR ?_))))));exact ES.ret (Ret.clo [_] ⟨⟨_,_,_,_,_,_,rfl,rfl,fits rfl,rfl⟩,trivial⟩ trivial)
 ·refine VS.skip (ES.seq (VS.region ?_));refine K1 ?_;refine X.st ?_;refine X.nil (ES.blkN ?_);exact GL ih_again1
theorem r04_Check_ok (s1:List Int):∀r:Bool,r04_Check s1 r→FC 131 [] [.c (.v (.tree (s1.map iRow)))] (.w (.c (.v (.bool r)))) [] []:=by
 refine fnS 32 ?_;unfold r04_Check;refine SR ?_;refine K1 ?_;refine NV ?_;refine K1 ?_;refine NO ?_;refine VS.loop (fun (i1:Int)=>(⟨[(0,wT iRow s1),(3,wI i1)],[]⟩:St)) (j0:=0) (LSB rfl rfl rfl rfl) ?_;rintro n1 again1 ih_again1 i1;refine SS ?_;refine K2 ?_;refine X.lenT ?_;refine K1 ?_;refine NS ?_
 refine VS.cond (fun h1=>?_) (fun h1=>?_)
 ·refine VS.skip (ES.seq (VS.seq (VS.block (VS.seq (VS.drawn ?_)))));refine K2 ?_;refine X.idxT (fun h2=>?_);refine K1 ?_;refine X.call true [] [] (r04_good_ok _) (fun x1=>?_);refine K2 ?_
  refine X.bif (fun h3=>?_) (fun h3=>?_)
  ·(iterate 3 refine X.gN h3 ?_);(iterate 10 refine X.gU ?_);refine X.gN h3 ?_;refine X.pT h3 ?_;refine ND ?_;refine ES.seq ?_;refine VS.condT rfl ?_;refine SR ?_;refine K1 ?_;refine X.nil (ES.seq (VS.ret (ES.blkR (ES.thnR (ES.thnR (ES.blkR (ES.thnR ?_)))))));exact ES.ret R1
  ·(iterate 3 refine X.gY h3 ?_;refine K1 ?_)
   refine X.bif (fun h4=>?_) (fun h4=>?_)
   ·(iterate 2 refine X.gY h4 ?_;refine K1 ?_);refine X.gY h4 ?_;refine X.idxT (fun h5=>?_);(iterate 3 refine X.gY h4 ?_;refine K1 ?_);refine X.gY h4 ?_;refine X.ck fun h6=>?_;refine X.gY h4 ?_;refine X.idxT (fun h7=>?_);(iterate 2 refine X.gY h4 ?_;refine K1 ?_);refine X.gY h3 ?_;refine X.pT h4 ?_;refine X.pF h3 ?_;refine ND ?_;refine ES.seq ?_
    refine VS.cond (fun h8=>?_) (fun h8=>?_)
    ·refine SR ?_;refine K1 ?_;refine X.nil (ES.seq (VS.ret (ES.blkR (ES.thnR (ES.thnR (ES.blkR (ES.thnR ?_)))))));exact ES.ret R1
    ·refine KB ?_;refine K1 ?_;refine X.ck fun h9=>?_;refine K1 ?_;refine X.nil ?_;exact GL ih_again1
   ·(iterate 10 refine X.gN h4 ?_);refine X.gY h3 ?_;refine X.pF h4 ?_;refine X.pF h3 ?_;refine ND ?_;refine ES.seq ?_;refine VS.condF rfl ?_;refine KB ?_;refine K1 ?_;refine X.ck fun h10=>?_;refine K1 ?_;refine X.nil ?_;exact GL ih_again1
 ·refine XE ?_;refine K1 ?_;refine NT ?_;exact ES.ret R1
theorem r17_shape_ok (f1:AFunc) (l1:ALive):∀r:Bool,r17_shape f1 l1 r→FC 87 [] [.agg ((row_AFunc f1).map .v),.agg ((row_ALive l1).map .v)] (.w (.c (.v (.bool r)))) [] []:=by
 refine fnS 51 ?_;unfold r17_shape;refine SR ?_;refine X.box 0 ?_;refine X.box 1 ?_;refine K1 ?_;refine NV ?_;(iterate 2 refine K2 ?_;refine X.lenT ?_);refine K1 ?_;refine NS ?_
 refine VS.cond (fun h1=>?_) (fun h1=>?_)
 ·refine SR ?_;refine K1 ?_;refine NU ?_;exact ES.ret R1
 ·refine VS.skip (ES.seq (VS.seq (VS.seq (VS.region ?_))));refine K1 ?_;refine NO ?_;refine VS.loop (fun (k1:Int)=>(⟨[(2,wP 0),(3,wP 1),(5,wI k1)],[some (.bx 60 ((row_AFunc f1).map .v)),some (.bx 87 ((row_ALive l1).map .v))]⟩:St)) (j0:=0) (LSB rfl rfl rfl rfl) ?_;rintro n1 again1 ih_again1 k1;refine SS ?_;refine K3 ?_;refine X.lenT ?_;refine K1 ?_;refine NS ?_
  refine VS.cond (fun h2=>?_) (fun h2=>?_)
  ·refine VS.skip (ES.seq (VS.seq (VS.block (VS.seq (VS.seq (VS.region ?_))))));refine K3 ?_;refine X.idxT (fun h3=>?_);refine K1 ?_;refine X.call true [] [] (r04_Check_ok _) (fun x1=>?_);refine K1 ?_;refine NS ?_
   refine VS.cond (fun h4=>?_) (fun h4=>?_)
   ·refine SR ?_;refine K1 ?_;refine X.nil (ES.seq (VS.ret (ES.thnR (ES.blkR (ES.thnR (ES.thnR (ES.blkR (ES.thnR ?_))))))));exact ES.ret R1
   ·refine KR ?_;refine K3 ?_;refine X.idxT (fun h5=>?_);refine K1 ?_;refine X.lenT ?_;refine K1 ?_;refine X.nil (ES.seq (VS.seq (VS.drawn ?_)));refine K3 ?_
    refine X.bif (fun h6=>?_) (fun h6=>?_)
    ·(iterate 3 refine X.gY h6 ?_;refine K1 ?_);refine X.gY h6 ?_;refine X.idxT (fun h7=>?_);(iterate 2 refine X.gY h6 ?_;refine K1 ?_);refine X.gY h6 ?_;refine X.ck fun h8=>?_;refine X.gY h6 ?_;refine X.idxT (fun h9=>?_);(iterate 3 refine X.gY h6 ?_;refine K1 ?_);refine X.gY h6 ?_;refine X.lenT ?_;refine X.gY h6 ?_;refine K1 ?_;refine X.pT h6 ?_;refine ND ?_;refine ES.seq ?_
     refine VS.cond (fun h10=>?_) (fun h10=>?_)
     ·refine SR ?_;refine K1 ?_;refine X.nil (ES.seq (VS.ret (ES.blkR (ES.thnR (ES.thnR (ES.blkR (ES.thnR ?_)))))));exact ES.ret R1
     ·refine KB ?_;refine K1 ?_;refine X.ck fun h11=>?_;refine K1 ?_;refine X.nil ?_;exact GL ih_again1
    ·(iterate 13 refine X.gN h6 ?_);refine X.pF h6 ?_;refine ND ?_;refine ES.seq ?_;refine VS.condF rfl ?_;refine KB ?_;refine K1 ?_;refine X.ck fun h12=>?_;refine K1 ?_;refine X.nil ?_;exact GL ih_again1
  ·refine XE ?_;refine K1 ?_;refine NT ?_;exact ES.ret R1
theorem r04_Has_ok (s1:List Int) (n1:Int):∀r:Bool,r04_Has s1 n1 r→FC 125 [] [.c (.v (.tree (s1.map iRow))),cI n1] (.w (.c (.v (.bool r)))) [] []:=by
 refine fnS 18 ?_;unfold r04_Has;refine SR ?_;refine K1 ?_;refine NV ?_;refine K1 ?_;refine NO ?_;refine VS.loop (fun (i1:Int)=>(⟨[(0,wT iRow s1),(1,wI n1),(5,wI i1)],[]⟩:St)) (j0:=0) (LSB rfl rfl rfl rfl) ?_;rintro n2 again1 ih_again1 i1;refine SS ?_;refine K2 ?_;refine X.lenT ?_;refine K1 ?_;refine NS ?_
 refine VS.cond (fun h1=>?_) (fun h1=>?_)
 ·refine KW ?_;refine K2 ?_;refine X.idxT (fun h2=>?_);refine K3 ?_;refine NS ?_
  refine VS.cond (fun h3=>?_) (fun h3=>?_)
  ·refine SR ?_;refine K1 ?_;refine X.nil (ES.seq (VS.ret (ES.blkR (ES.thnR (ES.thnR (ES.blkR (ES.thnR ?_)))))));exact ES.ret R1
  ·refine KB ?_;refine K1 ?_;refine X.ck fun h4=>?_;refine K1 ?_;refine X.nil ?_;exact GL ih_again1
 ·refine XE ?_;refine K1 ?_;refine NT ?_;exact ES.ret R1
theorem r04_Minus_ok (a1:List Int) (b1:List Int):∀r:List Int,r04_Minus a1 b1 r→FC 166 [] [.c (.v (.tree (a1.map iRow))),.c (.v (.tree (b1.map iRow)))] (.w (.c (.v (.tree (r.map iRow))))) [] []:=by
 refine fnS 28 ?_;unfold r04_Minus;refine SR ?_;refine K1 ?_;refine NR ?_;refine K1 ?_;refine NV ?_;refine K1 ?_;refine NO ?_;refine VS.loop (fun jj:Int × List Int=>(⟨[(0,wT iRow a1),(1,wT iRow b1),(5,wM 0),(6,wI jj.1)],[some (.sl 3 1 false (jj.2.map iRow))]⟩:St)) (j0:=(0,([]:List Int))) ((St.le_keep _ [0,1,5,6]).trans ((St.le_adopt _ 5 0 3 1 rfl rfl).trans (LSB rfl rfl rfl rfl))) ?_;rintro n1 again1 ih_again1 ⟨i1,out1⟩;refine SS ?_;refine K2 ?_;refine X.lenT ?_;refine K1 ?_;refine NS ?_
 refine VS.cond (fun h1=>?_) (fun h1=>?_)
 ·refine KW ?_;refine K3 ?_;refine X.idxT (fun h2=>?_);refine K1 ?_;refine X.call true [] [] (r04_Has_ok _ _) (fun x1=>?_);refine K1 ?_;refine NS ?_
  refine VS.cond (fun h3=>?_) (fun h3=>?_)
  ·refine VS.region ?_;refine K3 ?_;refine X.idxT (fun h4=>?_);refine K1 ?_;refine X.bs 1 ([(atD a1 i1)]:List Int) iRow ?_;refine X.appMM 2 (l:=out1) (l':=([(atD a1 i1)]:List Int)) (fun h5=>?_);refine K1 ?_;refine NB ?_;refine K1 ?_;refine X.ck fun h6=>?_;refine K1 ?_;refine X.nil ?_;exact ES.go ih_again1 _ ((St.le_mvB _ 2 0 rfl rfl rfl rfl).trans (LSB rfl rfl rfl rfl))
  ·refine KB ?_;refine K1 ?_;refine X.ck fun h7=>?_;refine K1 ?_;refine X.nil ?_;exact GL ih_again1
 ·refine XE ?_;refine K2 ?_;refine NT ?_;exact ES.ret (Ret.weak (St.le_tree _ 4 0 rfl rfl) (Ret.clo [.c (aT iRow out1)] ⟨rfl,trivial⟩ trivial))
theorem r17_missing_ok (f1:AFunc) (l1:ALive) (k1:Int):∀r:List Int,r17_missing f1 l1 k1 r→FC 130 [] [.agg ((row_AFunc f1).map .v),.agg ((row_ALive l1).map .v),cI k1] (.w (.c (.v (.tree (r.map iRow))))) [] []:=by
 refine fnS 44 ?_;unfold r17_missing;refine SR ?_;refine X.box 0 ?_;refine X.box 1 ?_;(iterate 2 refine K1 ?_;refine NR ?_);refine K2 ?_;refine X.call true [] [] (r13_Next_ok _ _) (fun x1=>?_);refine K1 ?_;refine NV ?_;refine K1 ?_;refine NO ?_;refine VS.loop (fun jj:List Int × Int=>(⟨[(2,wI k1),(3,wP 0),(4,wP 1),(7,wT iRow jj.1),(8,wT iRow x1),(9,wI jj.2)],[some (.bx 60 ((row_AFunc f1).map .v)),some (.bx 87 ((row_ALive l1).map .v))]⟩:St)) (j0:=(([]:List Int),0)) ((St.le_nil _ 7 rfl).trans (LSB rfl rfl rfl rfl)) ?_;rintro n1 again1 ih_again1 ⟨out1,i1⟩;refine SS ?_;refine K2 ?_;refine X.lenT ?_;refine K1 ?_;refine NS ?_
 refine VS.cond (fun h1=>?_) (fun h1=>?_)
 ·refine KW ?_;refine K2 ?_;refine X.idxT (fun h2=>?_);refine K2 ?_;refine X.nil (ES.seq (VS.drawn ?_));refine K3 ?_;refine K1 ?_;refine X.idxT (fun h3=>?_);refine K3 ?_;refine K1 ?_;refine X.idxT (fun h4=>?_);refine K1 ?_;refine X.call true [] [] (r15_In_ok _ _) (fun x2=>?_);refine K3 ?_;refine X.idxT (fun h5=>?_);refine K1 ?_;refine X.call true [] [] (r04_Minus_ok _ _) (fun x3=>?_);refine X.call true [] [] (r04_Union_ok _ _) (fun x4=>?_);refine K1 ?_;refine ND ?_;refine ES.blkN (ES.seq (VS.region ?_));refine K1 ?_;refine X.ck fun h6=>?_;refine K1 ?_;refine X.nil ?_;exact GL ih_again1
 ·refine XE ?_;refine K2 ?_;refine NT ?_;exact ES.ret R1
theorem r17_First_ok (f1:AFunc) (l1:ALive):∀r:Int × Int × Bool,r17_First f1 l1 r→FC 86 [] [.agg ((row_AFunc f1).map .v),.agg ((row_ALive l1).map .v)] (.tup [cI r.1,cI r.2.1,.c (.v (.bool r.2.2))]) [] []:=by
 refine fnS 31 ?_;unfold r17_First;refine SR ?_;refine X.box 0 ?_;refine X.box 1 ?_;refine K3 ?_;refine NV ?_;refine K2 ?_;refine X.call true [] [] (r17_shape_ok _ _) (fun x1=>?_);refine K1 ?_;refine NS ?_
 refine VS.cond (fun h1=>?_) (fun h1=>?_)
 ·refine SR ?_;refine K3 ?_;refine NU ?_;exact ES.ret (Ret.clo [_,_,_] ⟨rfl,rfl,rfl,trivial⟩ trivial)
 ·refine VS.skip (ES.seq (VS.seq (VS.seq (VS.region ?_))));refine K1 ?_;refine NO ?_;refine VS.loop (fun (k1:Int)=>(⟨[(2,wP 0),(3,wP 1),(7,wI k1)],[some (.bx 60 ((row_AFunc f1).map .v)),some (.bx 87 ((row_ALive l1).map .v))]⟩:St)) (j0:=0) (LSB rfl rfl rfl rfl) ?_;rintro n1 again1 ih_again1 k1;refine SS ?_;refine K3 ?_;refine X.lenT ?_;refine K1 ?_;refine NS ?_
  refine VS.cond (fun h2=>?_) (fun h2=>?_)
  ·refine KW ?_;refine K3 ?_;refine X.call true [] [] (r17_missing_ok _ _ _) (fun x2=>?_);refine K1 ?_;refine NR ?_;refine K1 ?_;refine X.lenT ?_;refine K1 ?_;refine NS ?_
   refine VS.cond (fun h3=>?_) (fun h3=>?_)
   ·refine VS.seq (VS.drawn ?_);refine K2 ?_;refine X.idxT (fun h4=>?_);refine K3 ?_;refine K1 ?_;refine ND ?_;refine ES.seq (VS.ret (ES.blkR (ES.thnR (ES.thnR (ES.blkR (ES.thnR ?_))))));exact ES.ret (Ret.clo [_,_,_] ⟨rfl,rfl,rfl,trivial⟩ trivial)
   ·refine KB ?_;refine K1 ?_;refine X.ck fun h5=>?_;refine K1 ?_;refine X.nil ?_;exact GL ih_again1
  ·refine XE ?_;refine K3 ?_;refine NT ?_;exact ES.ret (Ret.clo [_,_,_] ⟨rfl,rfl,rfl,trivial⟩ trivial)
theorem r17_Check_ok (f1:AFunc) (l1:ALive):∀r:Int,r17_Check f1 l1 r→FC 51 [] [.agg ((row_AFunc f1).map .v),.agg ((row_ALive l1).map .v)] (.w (cI r)) [] []:=by
 refine fnS 22 ?_;unfold r17_Check;refine SR ?_;refine X.box 0 ?_;refine X.box 1 ?_;refine K1 ?_;refine NV ?_;refine K2 ?_;refine X.call true [] [] (r17_First_ok _ _) (fun x1=>?_);refine K3 ?_;refine K3 ?_;refine K1 ?_;refine NR ?_;refine K2 ?_
 refine X.bif (fun h1=>?_) (fun h1=>?_)
 ·(iterate 4 refine X.gN h1 ?_);refine X.pT h1 ?_;refine NS ?_;refine VS.condT rfl ?_;refine SR ?_;refine K1 ?_;refine NU ?_;exact ES.ret R1
 ·(iterate 2 refine X.gY h1 ?_;refine K1 ?_);refine X.gY h1 ?_;refine X.call true [] [] (r17_shape_ok _ _) (fun x2=>?_);refine X.gY h1 ?_;refine K1 ?_;refine X.pF h1 ?_;refine NS ?_
  refine VS.cond (fun h2=>?_) (fun h2=>?_)
  ·refine SR ?_;refine K1 ?_;refine NU ?_;exact ES.ret R1
  ·refine KR ?_;refine K1 ?_;refine NT ?_;exact ES.ret R1
theorem r18_graph_ok (f1:AFunc) (l1:ALive) (strict1:Bool):∀r:List (List Int) × Int,r18_graph f1 l1 strict1 r→FC 113 [] [.agg ((row_AFunc f1).map .v),.agg ((row_ALive l1).map .v),.c (.v (.bool strict1))] (.tup [.c (.v (.tree (r.1.map (sR iRow)))),cI r.2]) [] []:=by
 refine fnS 111 ?_;unfold r18_graph;refine SR ?_;refine X.box 0 ?_;refine X.box 1 ?_;refine K2 ?_;refine NV ?_;refine K2 ?_;refine X.call true [] [] (r17_Check_ok _ _) (fun x1=>?_);refine K1 ?_;refine NR ?_;refine K2 ?_;refine NS ?_
 refine VS.cond (fun h1=>?_) (fun h1=>?_)
 ·refine SR ?_;refine K3 ?_;refine NU ?_;exact ES.ret (Ret.weak (St.le_nil _ 6 rfl) (Ret.clo [.c (aT (sR iRow) ([]:List (List Int))),.c (aI x1)] ⟨rfl,rfl,trivial⟩ trivial))
 ·refine KR ?_;refine K2 ?_;refine X.lenT ?_;refine X.make 2 (α:=List Int) (sR iRow) (fun h2=>?_);refine K1 ?_;refine NV ?_;refine K1 ?_;refine NO ?_;refine VS.loop (fun jj:Int × List (List Int)=>(⟨[(2,.w (.c (.v (.bool strict1)))),(3,wP 0),(4,wP 1),(9,wM 2),(10,wI jj.1)],[some (.bx 60 ((row_AFunc f1).map .v)),some (.bx 87 ((row_ALive l1).map .v)),some (.sl 64 1 false (jj.2.map (sR iRow)))]⟩:St)) (j0:=(0,(repD (f1.Slots.length:Int):List (List Int)))) (LSB rfl rfl rfl rfl) ?_;rintro n1 again1 ih_again1 ⟨k1,out1⟩;refine SS ?_;refine K3 ?_;refine X.lenT ?_;refine K1 ?_;refine NS ?_
  refine VS.cond (fun h3=>?_) (fun h3=>?_)
  ·refine KW ?_;refine K3 ?_;refine X.idxT (fun h4=>?_);refine K1 ?_;refine X.alloc 3 ?_;refine X.st ?_;refine NR ?_;refine K1 ?_;refine X.call true [] [] (r15_Defines_ok _) (fun x2=>?_);refine K3 ?_;refine K2 ?_;refine NS ?_
   refine VS.join (fun (_:Unit)=>(⟨[(2,.w (.c (.v (.bool strict1)))),(3,wP 0),(4,wP 1),(9,wM 2),(10,wI k1),(11,wP 3),(12,wI x2.1),(13,.w (.c (.v (.bool x2.2))))],[some (.bx 60 ((row_AFunc f1).map .v)),some (.bx 87 ((row_ALive l1).map .v)),some (.sl 64 1 false (out1.map (sR iRow))),some (.bx 62 ((row_AInstr (atD f1.Code k1)).map .v))]⟩:St)) ?_ ?_
   ·rintro ⟨⟩;refine SR ?_;refine K1 ?_;refine NO ?_;refine VS.loop (fun jj:Int × List (List Int)=>(⟨[(2,.w (.c (.v (.bool strict1)))),(3,wP 0),(4,wP 1),(9,wM 2),(10,wI k1),(11,wP 3),(12,wI x2.1),(13,.w (.c (.v (.bool x2.2)))),(14,wI jj.1)],[some (.bx 60 ((row_AFunc f1).map .v)),some (.bx 87 ((row_ALive l1).map .v)),some (.sl 64 1 false (jj.2.map (sR iRow))),some (.bx 62 ((row_AInstr (atD f1.Code k1)).map .v))]⟩:St)) (j0:=(0,out1)) (LSB rfl rfl rfl rfl) ?_;rintro n2 again2 ih_again2 ⟨i1,out2⟩;refine SS ?_;refine K3 ?_;refine K1 ?_;refine X.idxT (fun h5=>?_);refine K1 ?_;refine X.lenT ?_;refine K2 ?_
    refine X.bif (fun h6=>?_) (fun h6=>?_)
    ·refine X.gY h6 ?_;refine K1 ?_;refine X.pT h6 ?_;refine NS ?_
     refine VS.cond (fun h7=>?_) (fun h7=>?_)
     ·refine KW ?_;refine K3 ?_;refine X.idxT (fun h8=>?_);refine K2 ?_;refine X.idxT (fun h9=>?_);refine K2 ?_;refine NS ?_
      refine VS.join (fun jj:Bool × Bool × Bool=>(⟨[(2,.w (.c (.v (.bool strict1)))),(3,wP 0),(4,wP 1),(9,wM 2),(10,wI k1),(11,wP 3),(12,wI x2.1),(13,.w (.c (.v (.bool x2.2)))),(14,wI i1),(15,wI (atD (atD l1.Out k1) i1)),(62,.w (.c (.v (.bool x2.2)))),(78,.w (.c (.v (.bool strict1)))),(79,.w (.c (.v (.bool (!strict1))))),(80,.w (.c (.v (.bool (!strict1))))),(84,.w (.c (.v (.bool jj.1)))),(85,.w (.c (.v (.bool jj.2.1)))),(90,.w (.c (.v (.bool jj.2.2))))],[some (.bx 60 ((row_AFunc f1).map .v)),some (.bx 87 ((row_ALive l1).map .v)),some (.sl 64 1 false (out2.map (sR iRow))),some (.bx 62 ((row_AInstr (atD f1.Code k1)).map .v))]⟩:St)) ?_ ?_
      ·rintro ⟨x3,x4,x5⟩;refine VS.drawn ?_;refine K3 ?_;refine K3 ?_;refine X.idxM (l:=out2) (i:=x2.1) (fun h10=>?_);refine X.ld (i:=x2.1) h10 ?_;refine K1 ?_;refine X.call true [] [] (r04_Add_ok _ _) (fun x6=>?_);refine K2 ?_;refine X.idxM (l:=out2) (i:=(atD (atD l1.Out k1) i1)) (fun h11=>?_);refine X.ld (i:=(atD (atD l1.Out k1) i1)) h11 ?_;refine K1 ?_;refine X.call true [] [] (r04_Add_ok _ _) (fun x7=>?_);refine X.idxM (l:=out2) (i:=x2.1) (fun h12=>?_);refine X.set (i:=x2.1) x6 h12 ?_;refine X.idxM (l:=(setD out2 x2.1 x6)) (i:=(atD (atD l1.Out k1) i1)) (fun h13=>?_);refine X.set (i:=(atD (atD l1.Out k1) i1)) x7 h13 ?_;refine ND ?_;refine ES.blkN (ES.seq (VS.region ?_));refine K1 ?_;refine X.ck fun h14=>?_;refine K1 ?_;refine X.nil ?_;exact GL ih_again2
      ·intro k3 ih_k3;refine SR ?_;refine K3 ?_;refine K1 ?_
       refine X.bif (fun h15=>?_) (fun h15=>?_)
       ·(iterate 3 refine X.gN h15 ?_);(iterate 3 refine X.gU ?_);(iterate 2 refine X.gN h15 ?_);(iterate 4 refine X.gU ?_);refine X.gN h15 ?_;refine X.pT h15 ?_;refine NS ?_;refine VS.condT rfl ?_;refine VS.exit (ES.thnE (ES.blkE (ES.seq (VS.region ?_))));refine K1 ?_;refine X.ck fun h16=>?_;refine K1 ?_;refine X.nil ?_;exact GL ih_again2
       ·(iterate 3 refine X.gY h15 ?_;refine K1 ?_)
        refine X.bif (fun h17=>?_) (fun h17=>?_)
        ·(iterate 3 refine X.gY h17 ?_;refine K1 ?_);refine X.gY h15 ?_;refine X.pT h17 ?_;refine X.gY h15 ?_;refine K1 ?_
         refine X.bif (fun h18=>?_) (fun h18=>?_)
         ·(iterate 4 refine X.gY h18 ?_;refine K1 ?_);refine X.gY h15 ?_;refine X.pT h18 ?_;refine X.pF h15 ?_;refine NS ?_
          refine VS.cond (fun h19=>?_) (fun h19=>?_)
          ·refine VS.exit (ES.thnE (ES.blkE (ES.seq (VS.region ?_))));refine K1 ?_;refine X.ck fun h20=>?_;refine K1 ?_;refine X.nil ?_;exact GL ih_again2
          ·refine VS.skip ?_;exact JL ih_k3
         ·(iterate 4 refine X.gN h18 ?_);refine X.gY h15 ?_;refine X.pF h18 ?_;refine X.pF h15 ?_;refine NS ?_;refine VS.condF rfl ?_;refine VS.skip ?_;exact JL ih_k3
        ·(iterate 3 refine X.gN h17 ?_);refine X.gY h15 ?_;refine X.pF h17 ?_;refine X.gY h15 ?_;refine K1 ?_;(iterate 4 refine X.gN rfl ?_);refine X.gY h15 ?_;refine X.pF rfl ?_;refine X.pF h15 ?_;refine NS ?_;refine VS.condF rfl ?_;refine VS.skip ?_;exact JL ih_k3
     ·refine VS.exit (ES.thnE (ES.thnE (ES.blkE (ES.blkN (ES.seq (VS.region ?_))))));refine K1 ?_;refine X.ck fun h21=>?_;refine K1 ?_;refine X.nil ?_;exact GL ih_again1
    ·refine X.gN h6 ?_;refine X.pF h6 ?_;refine NS ?_;refine VS.condF rfl ?_;refine VS.exit (ES.thnE (ES.thnE (ES.blkE (ES.blkN (ES.seq (VS.region ?_))))));refine K1 ?_;refine X.ck fun h22=>?_;refine K1 ?_;refine X.nil ?_;exact GL ih_again1
   ·intro k2 ih_k2;refine SR ?_;refine K3 ?_;refine K1 ?_
    refine X.bif (fun h23=>?_) (fun h23=>?_)
    ·(iterate 5 refine X.gY h23 ?_;refine K1 ?_);refine X.pT h23 ?_;refine NS ?_
     refine VS.cond (fun h24=>?_) (fun h24=>?_)
     ·refine VS.exit (ES.thnE (ES.blkE (ES.seq (VS.region ?_))));refine K1 ?_;refine X.ck fun h25=>?_;refine K1 ?_;refine X.nil ?_;exact GL ih_again1
     ·refine VS.skip ?_;exact JL ih_k2
    ·(iterate 5 refine X.gN h23 ?_);refine X.pF h23 ?_;refine NS ?_;refine VS.condF rfl ?_;refine VS.skip ?_;exact JL ih_k2
  ·refine XE ?_;refine K3 ?_;refine NT ?_;exact ES.ret (Ret.weak (St.le_tree _ 6 2 rfl rfl) (Ret.clo [.c (aT (sR iRow) out1),.c (aI 0)] ⟨rfl,rfl,trivial⟩ trivial))
theorem r18_Graph_ok (f1:AFunc) (l1:ALive):∀r:List (List Int) × Int,r18_Graph f1 l1 r→FC 77 [] [.agg ((row_AFunc f1).map .v),.agg ((row_ALive l1).map .v)] (.tup [.c (.v (.tree (r.1.map (sR iRow)))),cI r.2]) [] []:=by
 refine fnS 11 ?_;unfold r18_Graph;refine SR ?_;refine X.box 0 ?_;refine X.box 1 ?_;refine K2 ?_;refine NR ?_;refine K2 ?_;refine X.call true [] [] (r18_graph_ok _ _ _) (fun x1=>?_);refine K3 ?_;refine K1 ?_;refine NT ?_;exact ES.ret (Ret.clo [_,_] ⟨rfl,rfl,trivial⟩ trivial)
theorem r18_Moves_ok (f1:AFunc):∀r:List Arr2Int,r18_Moves f1 r→FC 114 [] [.agg ((row_AFunc f1).map .v)] (.w (.c (.v (.tree (r.map row_Arr2Int))))) [] []:=by
 refine fnS 58 ?_;unfold r18_Moves;refine SR ?_;refine X.box 0 ?_;refine K1 ?_;refine NR ?_;refine K1 ?_;refine NV ?_;refine K1 ?_;refine NO ?_;refine VS.loop (fun jj:Int × List Arr2Int=>(⟨[(1,wP 0),(3,wM 1),(4,wI jj.1)],[some (.bx 60 ((row_AFunc f1).map .v)),some (.sl 185 2 false (jj.2.map row_Arr2Int))]⟩:St)) (j0:=(0,([]:List Arr2Int))) ((St.le_keep _ [1,3,4]).trans ((St.le_adopt _ 3 1 185 2 rfl rfl).trans (LSB rfl rfl rfl rfl))) ?_;rintro n1 again1 ih_again1 ⟨k1,out1⟩;refine SS ?_;refine K3 ?_;refine X.lenT ?_;refine K1 ?_;refine NS ?_
 refine VS.cond (fun h1=>?_) (fun h1=>?_)
 ·refine KW ?_;refine K3 ?_;refine X.idxT (fun h2=>?_);refine K1 ?_;refine X.alloc 2 ?_;refine X.st ?_;refine NR ?_;refine K3 ?_;refine K1 ?_;refine X.buildA ?_;refine X.alloc 3 ?_;refine X.st ?_;refine NS ?_
  refine VS.join (fun (old1:Bool)=>(⟨[(1,wP 0),(3,wM 1),(4,wI k1),(6,wP 2),(7,.w (.c (.v (.bool old1))))],[some (.bx 60 ((row_AFunc f1).map .v)),some (.sl 185 2 false (out1.map row_Arr2Int)),some (.bx 185 [aI ((atD f1.Code k1).A),aI ((atD f1.Code k1).B)])]⟩:St)) ?_ ?_
  ·rintro old1;refine SS ?_;refine K1 ?_;refine NO ?_;refine VS.loop (fun jj:Bool × Int=>(⟨[(1,wP 0),(3,wM 1),(4,wI k1),(6,wP 2),(7,.w (.c (.v (.bool jj.1)))),(8,wI jj.2)],[some (.bx 60 ((row_AFunc f1).map .v)),some (.sl 185 2 false (out1.map row_Arr2Int)),some (.bx 185 [aI ((atD f1.Code k1).A),aI ((atD f1.Code k1).B)])]⟩:St)) (j0:=(old1,0)) (LSB rfl rfl rfl rfl) ?_;rintro n2 again2 ih_again2 ⟨old2,i1⟩;refine SS ?_;refine K2 ?_;refine X.lenM (l:=out1) ?_;refine K1 ?_;refine NS ?_
   refine VS.cond (fun h3=>?_) (fun h3=>?_)
   ·refine VS.skip (ES.seq (VS.seq (VS.block (VS.drawn ?_))));refine K2 ?_
    refine X.bif (fun h4=>?_) (fun h4=>?_)
    ·(iterate 6 refine X.gN h4 ?_);refine X.pT h4 ?_;refine K1 ?_;refine ND ?_;refine ES.blkN (ES.seq (VS.region ?_));refine K1 ?_;refine X.ck fun h5=>?_;refine K1 ?_;refine X.nil ?_;exact GL ih_again2
    ·(iterate 2 refine X.gY h4 ?_;refine K1 ?_);refine X.gY h4 ?_;refine X.idxM (l:=out1) (i:=i1) (fun h6=>?_);refine X.gY h4 ?_;refine X.ld (i:=i1) h6 ?_;refine X.gY h4 ?_;refine K1 ?_;refine X.gY h4 ?_;refine X.eqA row_Arr2Int (atD out1 i1) (⟨(atD f1.Code k1).A,(atD f1.Code k1).B⟩:Arr2Int) same_Arr2Int ?_;refine X.pF h4 ?_;refine K1 ?_;refine ND ?_;refine ES.blkN (ES.seq (VS.region ?_));refine K1 ?_;refine X.ck fun h7=>?_;refine K1 ?_;refine X.nil ?_;exact GL ih_again2
   ·refine XE ?_;refine K2 ?_;refine NS ?_
    refine VS.cond (fun h8=>?_) (fun h8=>?_)
    ·refine VS.region ?_;refine K2 ?_;refine X.bs 3 ([(⟨(atD f1.Code k1).A,(atD f1.Code k1).B⟩:Arr2Int)]:List Arr2Int) row_Arr2Int ?_;refine X.appMM 4 (l:=out1) (l':=([(⟨(atD f1.Code k1).A,(atD f1.Code k1).B⟩:Arr2Int)]:List Arr2Int)) (fun h9=>?_);refine K1 ?_;refine NB ?_;refine K1 ?_;refine X.ck fun h10=>?_;refine K1 ?_;refine X.nil ?_;exact ES.go ih_again1 _ ((St.le_mvB _ 4 1 rfl rfl rfl rfl).trans (LSB rfl rfl rfl rfl))
    ·refine KB ?_;refine K1 ?_;refine X.ck fun h11=>?_;refine K1 ?_;refine X.nil ?_;exact GL ih_again1
  ·intro k2 ih_k2;refine VS.region ?_;refine K3 ?_;refine K1 ?_
   refine X.bif (fun h12=>?_) (fun h12=>?_)
   ·(iterate 5 refine X.gN h12 ?_);refine X.pT h12 ?_;refine K1 ?_;refine X.nil ?_;exact ES.jn ih_k2 _ ((St.le_drop _ 2 (Nat.le_of_ble_eq_true rfl)).trans ((St.le_mvB _ 3 2 rfl rfl rfl rfl).trans (LSB rfl rfl rfl rfl)))
   ·(iterate 5 refine X.gY h12 ?_;refine K1 ?_);refine X.pF h12 ?_;refine K1 ?_;refine X.nil ?_;exact ES.jn ih_k2 _ ((St.le_drop _ 2 (Nat.le_of_ble_eq_true rfl)).trans ((St.le_mvB _ 3 2 rfl rfl rfl rfl).trans (LSB rfl rfl rfl rfl)))
 ·refine XE ?_;refine K2 ?_;refine NT ?_;exact ES.ret (Ret.weak (St.le_tree _ 2 1 rfl rfl) (Ret.clo [.c (aT row_Arr2Int out1)] ⟨rfl,trivial⟩ trivial))
end Go.Proofs.YtgbkhjllbgmdcaaGreat.Q
