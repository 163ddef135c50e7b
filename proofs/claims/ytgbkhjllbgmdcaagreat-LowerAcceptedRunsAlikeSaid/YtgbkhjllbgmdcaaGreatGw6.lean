/- Walks of functions: the code does what the lifted text says (written by a program). -/
import Derived.Test.YtgbkhjllbgmdcaaGreatLR
import Derived.Test.YtgbkhjllbgmdcaaGreatGw5
set_option linter.unusedVariables false
set_option linter.unusedSimpArgs false
set_option maxRecDepth 8000
namespace Go.Proofs.YtgbkhjllbgmdcaaGreat.Q
open Go.RowKit
set_option maxHeartbeats 4000000
theorem r18_Check_ok (g1:List (List Int)) (n1:Int):∀r:Bool,r18_Check g1 n1 r→FC 123 [] [.c (.v (.tree (g1.map (sR iRow)))),cI n1] (.w (.c (.v (.bool r)))) [] []:=by
 refine fnS 59 ?_;unfold r18_Check;refine SR ?_;refine K1 ?_;refine NV ?_;refine K1 ?_;refine X.lenT ?_;refine K2 ?_;refine NS ?_
 refine VS.cond (fun h1=>?_) (fun h1=>?_)
 ·refine SR ?_;refine K1 ?_;refine NU ?_;exact ES.ret R1
 ·refine VS.skip (ES.seq (VS.seq (VS.seq (VS.region ?_))));refine K1 ?_;refine NO ?_;refine VS.loop (fun (x1:Int)=>(⟨[(0,wT (sR iRow) g1),(1,wI n1),(5,wI x1)],[]⟩:St)) (j0:=0) (LSB rfl rfl rfl rfl) ?_;rintro n2 again1 ih_again1 x1;refine SS ?_;refine K3 ?_;refine NS ?_
  refine VS.cond (fun h2=>?_) (fun h2=>?_)
  ·refine VS.skip (ES.seq (VS.seq (VS.block (VS.seq (VS.seq (VS.region ?_))))));refine K2 ?_;refine X.idxT (fun h3=>?_);refine K1 ?_;refine X.call true [] [] (r04_Check_ok _) (fun x2=>?_);refine K2 ?_
   refine X.bif (fun h4=>?_) (fun h4=>?_)
   ·(iterate 6 refine X.gN h4 ?_);refine X.pT h4 ?_;refine NS ?_;refine VS.condT rfl ?_;refine SR ?_;refine K1 ?_;refine X.nil (ES.seq (VS.ret (ES.thnR (ES.blkR (ES.thnR (ES.thnR (ES.blkR (ES.thnR ?_))))))));exact ES.ret R1
   ·(iterate 2 refine X.gY h4 ?_;refine K1 ?_);refine X.gY h4 ?_;refine X.idxT (fun h5=>?_);(iterate 2 refine X.gY h4 ?_;refine K1 ?_);refine X.gY h4 ?_;refine X.call true [] [] (r04_Has_ok _ _) (fun x3=>?_);refine X.pF h4 ?_;refine NS ?_
    refine VS.cond (fun h6=>?_) (fun h6=>?_)
    ·refine SR ?_;refine K1 ?_;refine X.nil (ES.seq (VS.ret (ES.thnR (ES.blkR (ES.thnR (ES.thnR (ES.blkR (ES.thnR ?_))))))));exact ES.ret R1
    ·refine KR ?_;refine K1 ?_;refine NO ?_;refine VS.loop (fun (i1:Int)=>(⟨[(0,wT (sR iRow) g1),(1,wI n1),(5,wI x1),(6,wI i1),(24,wT (sR iRow) g1),(25,wI x1),(26,.w (.c (.tptr (sR iRow (atD g1 x1)) 0))),(27,wT iRow (atD g1 x1)),(28,wI x1),(29,.w (.c (.v (.bool x3))))],[]⟩:St)) (j0:=0) (LSB rfl rfl rfl rfl) ?_;rintro n3 again2 ih_again2 i1;refine SS ?_;refine K3 ?_;refine X.idxT (fun h7=>?_);refine K1 ?_;refine X.lenT ?_;refine K1 ?_;refine NS ?_
     refine VS.cond (fun h8=>?_) (fun h8=>?_)
     ·refine KW ?_;refine K2 ?_;refine X.idxT (fun h9=>?_);refine K2 ?_;refine X.idxT (fun h10=>?_);refine K2 ?_;refine NR ?_;refine K3 ?_;refine K1 ?_
      refine X.bif (fun h11=>?_) (fun h11=>?_)
      ·(iterate 7 refine X.gN h11 ?_);refine X.pT h11 ?_;refine NS ?_;refine VS.condT rfl ?_;refine SR ?_;refine K1 ?_;refine X.nil (ES.seq (VS.ret (ES.blkR (ES.thnR (ES.thnR (ES.blkR (ES.blkR (ES.thnR (ES.thnR (ES.blkR (ES.thnR ?_)))))))))));exact ES.ret R1
      ·(iterate 2 refine X.gY h11 ?_;refine K1 ?_);refine X.gY h11 ?_;refine X.idxT (fun h12=>?_);(iterate 2 refine X.gY h11 ?_;refine K1 ?_);refine X.gY h11 ?_;refine X.call true [] [] (r04_Has_ok _ _) (fun x4=>?_);refine X.gY h11 ?_;refine K1 ?_;refine X.pF h11 ?_;refine NS ?_
       refine VS.cond (fun h13=>?_) (fun h13=>?_)
       ·refine SR ?_;refine K1 ?_;refine X.nil (ES.seq (VS.ret (ES.blkR (ES.thnR (ES.thnR (ES.blkR (ES.blkR (ES.thnR (ES.thnR (ES.blkR (ES.thnR ?_)))))))))));exact ES.ret R1
       ·refine KB ?_;refine K1 ?_;refine X.ck fun h14=>?_;refine K1 ?_;refine X.nil ?_;exact GL ih_again2
     ·refine VS.exit (ES.thnE (ES.thnE (ES.blkE (ES.blkN (ES.seq (VS.region ?_))))));refine K1 ?_;refine X.ck fun h15=>?_;refine K1 ?_;refine X.nil ?_;exact GL ih_again1
  ·refine XE ?_;refine K1 ?_;refine NT ?_;exact ES.ret R1
theorem r23_before_ok (a1:ASlot) (b1:ASlot):∀r:Bool,r23_before a1 b1 r→FC 164 [] [.agg ((row_ASlot a1).map .v),.agg ((row_ASlot b1).map .v)] (.w (.c (.v (.bool r)))) [] []:=by
 refine fnS 24 ?_;unfold r23_before;refine SR ?_;refine X.box 0 ?_;refine X.box 1 ?_;refine K1 ?_;refine NR ?_;refine K3 ?_;refine K3 ?_
 refine X.bif (fun h1=>?_) (fun h1=>?_)
 ·(iterate 6 refine X.gN h1 ?_);(iterate 5 refine X.gU ?_);refine X.gN h1 ?_;refine X.pT h1 ?_;refine K1 ?_;refine NT ?_;exact ES.ret R1
 ·(iterate 6 refine X.gY h1 ?_;refine K1 ?_)
  refine X.bif (fun h2=>?_) (fun h2=>?_)
  ·(iterate 5 refine X.gY h2 ?_;refine K1 ?_);refine X.gY h1 ?_;refine X.pT h2 ?_;refine X.pF h1 ?_;refine K1 ?_;refine NT ?_;exact ES.ret R1
  ·(iterate 5 refine X.gN h2 ?_);refine X.gY h1 ?_;refine X.pF h2 ?_;refine X.pF h1 ?_;refine K1 ?_;refine NT ?_;exact ES.ret R1
theorem r23_Order_ok (s1:List ASlot):∀r:List Int,r23_Order s1 r→FC 124 [] [.c (.v (.tree (s1.map row_ASlot)))] (.w (.c (.v (.tree (r.map iRow))))) [] []:=by
 refine fnS 47 ?_;unfold r23_Order;refine SR ?_;refine K1 ?_;refine NR ?_;refine K1 ?_;refine NV ?_;refine K1 ?_;refine NO ?_;refine VS.loop (fun jj:Int × List Int=>(⟨[(0,wT row_ASlot s1),(3,wM 0),(4,wI jj.1)],[some (.sl 3 1 false (jj.2.map iRow))]⟩:St)) (j0:=(0,([]:List Int))) ((St.le_keep _ [0,3,4]).trans ((St.le_adopt _ 3 0 3 1 rfl rfl).trans (LSB rfl rfl rfl rfl))) ?_;rintro n1 again1 ih_again1 ⟨i1,out1⟩;refine SS ?_;refine K2 ?_;refine X.lenT ?_;refine K1 ?_;refine NS ?_
 refine VS.cond (fun h1=>?_) (fun h1=>?_)
 ·refine KW ?_;refine K1 ?_;refine X.lenM (l:=out1) ?_;refine K1 ?_;refine NS ?_
  refine VS.join (fun (k1:Int)=>(⟨[(0,wT row_ASlot s1),(3,wM 0),(4,wI i1),(5,wI k1)],[some (.sl 3 1 false (out1.map iRow))]⟩:St)) ?_ ?_
  ·rintro k1;refine VS.seq ?_;refine VS.weak (St.le_tree _ 3 0 rfl rfl) ?_;refine VS.region ?_;refine K2 ?_;refine X.sliceT none (some k1) (fun h2=>?_) trivial ⟨_,rfl⟩;refine X.appNT 1 (l':=(sliceD out1 0 k1)) (fun h3=>?_);refine K1 ?_;refine X.nil (ES.seq (VS.drawn ?_));refine K2 ?_;refine X.bs 2 ([i1]:List Int) iRow ?_;refine X.appMM 3 (l:=(sliceD out1 0 k1)) (l':=([i1]:List Int)) (fun h4=>?_);refine K2 ?_;refine X.sliceT (some k1) none (fun h5=>?_) ⟨_,rfl⟩ trivial;refine X.appMT 4 (l:=((sliceD out1 0 k1)++([i1]:List Int))) (l':=(sliceD out1 k1 (out1.length:Int))) (fun h6=>?_);refine K1 ?_;refine ND ?_;refine ES.blkN (ES.seq (VS.region ?_));refine K1 ?_;refine X.ck fun h7=>?_;refine K1 ?_;refine X.nil ?_;exact ES.go ih_again1 _ ((St.le_drop _ 0 (Nat.le_of_ble_eq_true rfl)).trans ((St.le_mvB _ 4 0 rfl rfl rfl rfl).trans (LSB rfl rfl rfl rfl)))
  ·intro k2 ih_k2;refine VS.block ?_;refine VS.loop (fun (k3:Int)=>(⟨[(0,wT row_ASlot s1),(3,wM 0),(4,wI i1),(5,wI k3)],[some (.sl 3 1 false (out1.map iRow))]⟩:St)) (j0:=(out1.length:Int)) (LSB rfl rfl rfl rfl) ?_;rintro n2 again2 ih_again2 k3;refine VS.seq (VS.seq (VS.drawn ?_));refine K3 ?_
   refine X.bif (fun h8=>?_) (fun h8=>?_)
   ·(iterate 2 refine X.gY h8 ?_;refine K1 ?_);refine X.gY h8 ?_;refine X.idxT (fun h9=>?_);(iterate 4 refine X.gY h8 ?_;refine K1 ?_);refine X.gY h8 ?_;refine X.ck fun h10=>?_;refine X.gY h8 ?_;refine X.idxM (l:=out1) (i:=(k3- 1)) (fun h11=>?_);refine X.gY h8 ?_;refine X.ld (i:=(k3- 1)) h11 ?_;refine X.gY h8 ?_;refine X.idxT (fun h12=>?_);refine X.gY h8 ?_;refine K1 ?_;refine X.gY h8 ?_;refine X.call true [] [] (r23_before_ok _ _) (fun x1=>?_);refine X.pT h8 ?_;refine ND ?_;refine ES.seq ?_
    refine VS.cond (fun h13=>?_) (fun h13=>?_)
    ·refine VS.skip (ES.seq (VS.block (VS.region ?_)));refine K1 ?_;refine X.ck fun h14=>?_;refine K1 ?_;refine X.nil (ES.blkN ?_);exact GL ih_again2
    ·refine VS.exit (ES.thnE (ES.thnE (ES.blkE ?_)));exact JL ih_k2
   ·(iterate 13 refine X.gN h8 ?_);refine X.pF h8 ?_;refine ND ?_;refine ES.seq ?_;refine VS.condF rfl ?_;refine VS.exit (ES.thnE (ES.thnE (ES.blkE ?_)));exact JL ih_k2
 ·refine XE ?_;refine K2 ?_;refine NT ?_;exact ES.ret (Ret.weak (St.le_tree _ 2 0 rfl rfl) (Ret.clo [.c (aT iRow out1)] ⟨rfl,trivial⟩ trivial))
theorem r03_Right_ok (a1:AInterval):∀r:Bool,r03_Right a1 r→FC 127 [] [.agg ((row_AInterval a1).map .v)] (.w (.c (.v (.bool r)))) [] []:=by
 refine fnS 19 ?_;unfold r03_Right;refine SR ?_;refine X.box 0 ?_;refine K1 ?_;refine NR ?_;refine K2 ?_;refine X.call true [] [] (r03_Bound_ok _) (fun x1=>?_);refine K1 ?_
 refine X.bif (fun h1=>?_) (fun h1=>?_)
 ·(iterate 2 refine X.gY h1 ?_;refine K1 ?_);refine X.gY h1 ?_;refine X.call true [] [] (r03_Bound_ok _) (fun x2=>?_);refine X.pT h1 ?_;refine K1 ?_
  refine X.bif (fun h2=>?_) (fun h2=>?_)
  ·(iterate 4 refine X.gY h2 ?_;refine K1 ?_);refine X.gY h2 ?_;refine X.ck fun h3=>?_;refine X.gY h2 ?_;refine K1 ?_;refine X.pT h2 ?_;refine K1 ?_;refine NT ?_;exact ES.ret R1
  ·(iterate 6 refine X.gN h2 ?_);refine X.pF h2 ?_;refine K1 ?_;refine NT ?_;exact ES.ret R1
 ·(iterate 3 refine X.gN h1 ?_);refine X.pF h1 ?_;refine K1 ?_;(iterate 6 refine X.gN rfl ?_);refine X.pF rfl ?_;refine K1 ?_;refine NT ?_;exact ES.ret R1
theorem r03_Overlap_ok (a1:AInterval) (b1:AInterval):∀r:Bool,r03_Overlap a1 b1 r→FC 133 [] [.agg ((row_AInterval a1).map .v),.agg ((row_AInterval b1).map .v)] (.w (.c (.v (.bool r)))) [] []:=by
 refine fnS 41 ?_;unfold r03_Overlap;refine SR ?_;refine X.box 0 ?_;refine X.box 1 ?_;refine K1 ?_;refine NR ?_;refine K1 ?_;refine X.call true [] [] (r03_Right_ok _) (fun x1=>?_);refine K1 ?_
 refine X.bif (fun h1=>?_) (fun h1=>?_)
 ·refine X.gY h1 ?_;refine K1 ?_;refine X.gY h1 ?_;refine X.call true [] [] (r03_Right_ok _) (fun x2=>?_);refine X.pT h1 ?_;refine K1 ?_
  refine X.bif (fun h2=>?_) (fun h2=>?_)
  ·(iterate 3 refine X.gY h2 ?_;refine K1 ?_);refine X.pT h2 ?_;refine K1 ?_
   refine X.bif (fun h3=>?_) (fun h3=>?_)
   ·(iterate 3 refine X.gY h3 ?_;refine K1 ?_);refine X.pT h3 ?_;refine K1 ?_
    refine X.bif (fun h4=>?_) (fun h4=>?_)
    ·(iterate 6 refine X.gY h4 ?_;refine K1 ?_);refine X.gY h4 ?_;refine X.ck fun h5=>?_;refine X.gY h4 ?_;refine K1 ?_;refine X.pT h4 ?_;refine K1 ?_
     refine X.bif (fun h6=>?_) (fun h6=>?_)
     ·(iterate 6 refine X.gY h6 ?_;refine K1 ?_);refine X.gY h6 ?_;refine X.ck fun h7=>?_;refine X.gY h6 ?_;refine K1 ?_;refine X.pT h6 ?_;refine K1 ?_;refine NT ?_;exact ES.ret R1
     ·(iterate 8 refine X.gN h6 ?_);refine X.pF h6 ?_;refine K1 ?_;refine NT ?_;exact ES.ret R1
    ·(iterate 8 refine X.gN h4 ?_);refine X.pF h4 ?_;refine K1 ?_;(iterate 8 refine X.gN rfl ?_);refine X.pF rfl ?_;refine K1 ?_;refine NT ?_;exact ES.ret R1
   ·(iterate 3 refine X.gN h3 ?_);refine X.pF h3 ?_;refine K1 ?_;(iterate 8 refine X.gN rfl ?_);refine X.pF rfl ?_;refine K1 ?_;(iterate 8 refine X.gN rfl ?_);refine X.pF rfl ?_;refine K1 ?_;refine NT ?_;exact ES.ret R1
  ·(iterate 3 refine X.gN h2 ?_);refine X.pF h2 ?_;refine K1 ?_;(iterate 3 refine X.gN rfl ?_);refine X.pF rfl ?_;refine K1 ?_;(iterate 8 refine X.gN rfl ?_);refine X.pF rfl ?_;refine K1 ?_;(iterate 8 refine X.gN rfl ?_);refine X.pF rfl ?_;refine K1 ?_;refine NT ?_;exact ES.ret R1
 ·(iterate 2 refine X.gN h1 ?_);refine X.pF h1 ?_;(iterate 2 refine K1 ?_;refine X.gN rfl ?_;refine X.gN rfl ?_;refine X.gN rfl ?_;refine X.pF rfl ?_);refine K1 ?_;(iterate 8 refine X.gN rfl ?_);refine X.pF rfl ?_;refine K1 ?_;(iterate 8 refine X.gN rfl ?_);refine X.pF rfl ?_;refine K1 ?_;refine NT ?_;exact ES.ret R1
theorem r03_free_ok (used1:List AInterval) (x1:AInterval):∀r:Bool,r03_free used1 x1 r→FC 165 [] [.c (.v (.tree (used1.map row_AInterval))),.agg ((row_AInterval x1).map .v)] (.w (.c (.v (.bool r)))) [] []:=by
 refine fnS 18 ?_;unfold r03_free;refine SR ?_;refine X.box 0 ?_;refine K1 ?_;refine NV ?_;refine K1 ?_;refine NO ?_;refine VS.loop (fun (i1:Int)=>(⟨[(0,wT row_AInterval used1),(3,wP 0),(5,wI i1)],[some (.bx 156 ((row_AInterval x1).map .v))]⟩:St)) (j0:=0) (LSB rfl rfl rfl rfl) ?_;rintro n1 again1 ih_again1 i1;refine SS ?_;refine K2 ?_;refine X.lenT ?_;refine K1 ?_;refine NS ?_
 refine VS.cond (fun h1=>?_) (fun h1=>?_)
 ·refine VS.skip (ES.seq (VS.seq (VS.block (VS.seq (VS.drawn ?_)))));refine K2 ?_;refine X.idxT (fun h2=>?_);refine K2 ?_;refine X.call true [] [] (r03_Overlap_ok _ _) (fun x2=>?_);refine ND ?_;refine ES.seq ?_
  refine VS.cond (fun h3=>?_) (fun h3=>?_)
  ·refine SR ?_;refine K1 ?_;refine X.nil (ES.seq (VS.ret (ES.blkR (ES.thnR (ES.thnR (ES.blkR (ES.thnR ?_)))))));exact ES.ret R1
  ·refine KB ?_;refine K1 ?_;refine X.ck fun h4=>?_;refine K1 ?_;refine X.nil ?_;exact GL ih_again1
 ·refine XE ?_;refine K1 ?_;refine NT ?_;exact ES.ret R1
theorem r03_Fit_ok (used1:List AInterval) (from1:Int) (size1:Int) (align1:Int):∀r:Int × Int,r03_Fit used1 from1 size1 align1 r→FC 126 [] [.c (.v (.tree (used1.map row_AInterval))),cI from1,cI size1,cI align1] (.tup [cI r.1,cI r.2]) [] []:=by
 refine fnS 98 ?_;unfold r03_Fit;refine SR ?_;refine K2 ?_;refine NV ?_;refine K1 ?_;refine X.call true [] [] (r03_Bound_ok _) (fun x1=>?_);refine K2 ?_
 refine X.bif (fun h1=>?_) (fun h1=>?_)
 ·(iterate 3 refine X.gN h1 ?_);refine X.pT h1 ?_;refine K1 ?_;(iterate 3 refine X.gN rfl ?_);refine X.pT rfl ?_;refine NS ?_;refine VS.condT rfl ?_;refine SR ?_;refine K2 ?_;refine NU ?_;exact ES.ret (Ret.clo [_,_] ⟨rfl,rfl,trivial⟩ trivial)
 ·refine X.gY h1 ?_;refine K1 ?_;refine X.gY h1 ?_;refine X.call true [] [] (r03_Bound_ok _) (fun x2=>?_);refine X.gY h1 ?_;refine K1 ?_;refine X.pF h1 ?_;refine K1 ?_
  refine X.bif (fun h2=>?_) (fun h2=>?_)
  ·(iterate 3 refine X.gN h2 ?_);refine X.pT h2 ?_;refine NS ?_;refine VS.condT rfl ?_;refine SR ?_;refine K2 ?_;refine NU ?_;exact ES.ret (Ret.clo [_,_] ⟨rfl,rfl,trivial⟩ trivial)
  ·refine X.gY h2 ?_;refine K1 ?_;refine X.gY h2 ?_;refine X.call true [] [] (r03_Power_ok _) (fun x3=>?_);refine X.gY h2 ?_;refine K1 ?_;refine X.pF h2 ?_;refine NS ?_
   refine VS.cond (fun h3=>?_) (fun h3=>?_)
   ·refine SR ?_;refine K2 ?_;refine NU ?_;exact ES.ret (Ret.clo [_,_] ⟨rfl,rfl,trivial⟩ trivial)
   ·refine VS.skip (ES.seq (VS.seq (VS.seq (VS.region ?_))));refine K1 ?_;refine NO ?_;refine VS.loop (fun (i1:Int)=>(⟨[(0,wT row_AInterval used1),(1,wI from1),(2,wI size1),(3,wI align1),(10,wI i1)],[]⟩:St)) (j0:=0) (LSB rfl rfl rfl rfl) ?_;rintro n1 again1 ih_again1 i1;refine SS ?_;refine K2 ?_;refine X.lenT ?_;refine K1 ?_;refine NS ?_
    refine VS.cond (fun h4=>?_) (fun h4=>?_)
    ·refine KW ?_;refine K2 ?_;refine X.idxT (fun h5=>?_);refine K1 ?_;refine X.call true [] [] (r03_Right_ok _) (fun x4=>?_);refine K1 ?_;refine NS ?_
     refine VS.cond (fun h6=>?_) (fun h6=>?_)
     ·refine SR ?_;refine K2 ?_;refine X.nil (ES.seq (VS.ret (ES.blkR (ES.thnR (ES.thnR (ES.blkR (ES.thnR ?_)))))));exact ES.ret (Ret.clo [_,_] ⟨rfl,rfl,trivial⟩ trivial)
     ·refine KB ?_;refine K1 ?_;refine X.ck fun h7=>?_;refine K1 ?_;refine X.nil ?_;exact GL ih_again1
    ·refine XE ?_;refine K2 ?_;refine NV ?_;refine K1 ?_;refine NO ?_;refine VS.loop (fun jj:Int × Bool × Int=>(⟨[(0,wT row_AInterval used1),(1,wI from1),(2,wI size1),(3,wI align1),(11,wI jj.1),(12,.w (.c (.v (.bool jj.2.1)))),(13,wI jj.2.2)],[]⟩:St)) (j0:=(0,false,(-1))) (LSB rfl rfl rfl rfl) ?_;rintro n2 again2 ih_again2 ⟨best1,found1,i2⟩;refine SS ?_;refine K2 ?_;refine X.lenT ?_;refine K1 ?_;refine NS ?_
     refine VS.cond (fun h8=>?_) (fun h8=>?_)
     ·refine KW ?_;refine K2 ?_;refine NS ?_
      refine VS.join (fun (at1:Int)=>(⟨[(0,wT row_AInterval used1),(1,wI from1),(2,wI size1),(3,wI align1),(11,wI best1),(12,.w (.c (.v (.bool found1)))),(13,wI i2),(14,wI at1)],[]⟩:St)) ?_ ?_
      ·rintro at1;refine SR ?_;refine K2 ?_;refine X.call true [] [] (r03_Up_ok _ _) (fun x5=>?_);refine K3 ?_;refine K2 ?_;refine NR ?_;refine K2 ?_;refine X.build ?_;refine X.alloc 0 ?_;refine X.st ?_;refine NR ?_;refine K3 ?_
       refine X.bif (fun h9=>?_) (fun h9=>?_)
       ·refine X.gY h9 ?_;refine K1 ?_;refine X.gY h9 ?_;refine X.call true [] [] (r03_Right_ok _) (fun x6=>?_);refine X.pT h9 ?_;refine K1 ?_
        refine X.bif (fun h10=>?_) (fun h10=>?_)
        ·(iterate 2 refine X.gY h10 ?_;refine K1 ?_);refine X.gY h10 ?_;refine X.call true [] [] (r03_free_ok _ _) (fun x7=>?_);refine X.pT h10 ?_;refine K1 ?_
         refine X.bif (fun h11=>?_) (fun h11=>?_)
         ·(iterate 3 refine X.gY h11 ?_;refine K1 ?_)
          refine X.bif (fun h12=>?_) (fun h12=>?_)
          ·(iterate 3 refine X.gN h12 ?_);refine X.gY h11 ?_;refine X.pT h12 ?_;refine X.pT h11 ?_;refine NS ?_;refine VS.condT rfl ?_;refine VS.region ?_;refine K3 ?_;refine NB ?_;refine K1 ?_;refine X.ck fun h13=>?_;refine K1 ?_;refine X.nil ?_;exact GL ih_again2
          ·(iterate 3 refine X.gY h12 ?_;refine K1 ?_);refine X.gY h11 ?_;refine X.pF h12 ?_;refine X.pT h11 ?_;refine NS ?_
           refine VS.cond (fun h14=>?_) (fun h14=>?_)
           ·refine VS.region ?_;refine K3 ?_;refine NB ?_;refine K1 ?_;refine X.ck fun h15=>?_;refine K1 ?_;refine X.nil ?_;exact GL ih_again2
           ·refine KB ?_;refine K1 ?_;refine X.ck fun h16=>?_;refine K1 ?_;refine X.nil ?_;exact GL ih_again2
         ·(iterate 3 refine X.gN h11 ?_);(iterate 3 refine X.gU ?_);refine X.gN h11 ?_;refine X.pF h11 ?_;refine NS ?_;refine VS.condF rfl ?_;refine KB ?_;refine K1 ?_;refine X.ck fun h17=>?_;refine K1 ?_;refine X.nil ?_;exact GL ih_again2
        ·(iterate 3 refine X.gN h10 ?_);refine X.pF h10 ?_;refine K1 ?_;(iterate 3 refine X.gN rfl ?_);(iterate 3 refine X.gU ?_);refine X.gN rfl ?_;refine X.pF rfl ?_;refine NS ?_;refine VS.condF rfl ?_;refine KB ?_;refine K1 ?_;refine X.ck fun h18=>?_;refine K1 ?_;refine X.nil ?_;exact GL ih_again2
       ·(iterate 2 refine X.gN h9 ?_);refine X.pF h9 ?_;refine K1 ?_;(iterate 3 refine X.gN rfl ?_);refine X.pF rfl ?_;refine K1 ?_;(iterate 3 refine X.gN rfl ?_);(iterate 3 refine X.gU ?_);refine X.gN rfl ?_;refine X.pF rfl ?_;refine NS ?_;refine VS.condF rfl ?_;refine KB ?_;refine K1 ?_;refine X.ck fun h19=>?_;refine K1 ?_;refine X.nil ?_;exact GL ih_again2
      ·intro k1 ih_k1;refine SR ?_;refine K2 ?_;refine NS ?_
       refine VS.cond (fun h20=>?_) (fun h20=>?_)
       ·refine VS.drawn ?_;refine K3 ?_;refine X.idxT (fun h21=>?_);refine K3 ?_;refine K1 ?_;refine X.idxT (fun h22=>?_);refine K2 ?_;refine X.ck fun h23=>?_;refine X.max ?_;refine K1 ?_;refine ND ?_;exact JL ih_k1
       ·refine VS.skip ?_;exact JL ih_k1
     ·refine VS.exit (ES.thnE (ES.thnE (ES.blkE (ES.seq (VS.seq (VS.seq (VS.region ?_)))))));refine K2 ?_;refine NS ?_
      refine VS.cond (fun h24=>?_) (fun h24=>?_)
      ·refine SR ?_;refine K2 ?_;refine NU ?_;exact ES.ret (Ret.clo [_,_] ⟨rfl,rfl,trivial⟩ trivial)
      ·refine KR ?_;refine K3 ?_;refine NT ?_;exact ES.ret (Ret.clo [_,_] ⟨rfl,rfl,trivial⟩ trivial)
theorem r23_Assign_ok (s1:List ASlot) (g1:List (List Int)) (from1:Int):∀r:List Int × Int,r23_Assign s1 g1 from1 r→FC 82 [] [.c (.v (.tree (s1.map row_ASlot))),.c (.v (.tree (g1.map (sR iRow)))),cI from1] (.tup [.c (.v (.tree (r.1.map iRow))),cI r.2]) [] []:=by
 refine fnS 109 ?_;unfold r23_Assign;refine SR ?_;refine K2 ?_;refine NV ?_;refine K1 ?_;refine X.call true [] [] (r03_Slots_ok _) (fun x1=>?_);refine K1 ?_;refine NR ?_;refine K2 ?_;refine NS ?_
 refine VS.cond (fun h1=>?_) (fun h1=>?_)
 ·refine SR ?_;refine K3 ?_;refine NU ?_;exact ES.ret (Ret.weak (St.le_nil _ 6 rfl) (Ret.clo [.c (aT iRow ([]:List Int)),.c (aI x1)] ⟨rfl,rfl,trivial⟩ trivial))
 ·refine VS.skip (ES.seq (VS.seq (VS.seq (VS.region ?_))));refine K2 ?_;refine X.lenT ?_;refine X.call true [] [] (r18_Check_ok _ _) (fun x2=>?_);refine K2 ?_
  refine X.bif (fun h2=>?_) (fun h2=>?_)
  ·(iterate 3 refine X.gN h2 ?_);refine X.pT h2 ?_;refine NS ?_;refine VS.condT rfl ?_;refine SR ?_;refine K2 ?_;refine NU ?_;exact ES.ret (Ret.weak (St.le_nil _ 6 rfl) (Ret.clo [.c (aT iRow ([]:List Int)),.c (aI 4)] ⟨rfl,rfl,trivial⟩ trivial))
  ·refine X.gY h2 ?_;refine K1 ?_;refine X.gY h2 ?_;refine X.call true [] [] (r03_Bound_ok _) (fun x3=>?_);refine X.gY h2 ?_;refine K1 ?_;refine X.pF h2 ?_;refine NS ?_
   refine VS.cond (fun h3=>?_) (fun h3=>?_)
   ·refine SR ?_;refine K2 ?_;refine NU ?_;exact ES.ret (Ret.weak (St.le_nil _ 6 rfl) (Ret.clo [.c (aT iRow ([]:List Int)),.c (aI 4)] ⟨rfl,rfl,trivial⟩ trivial))
   ·refine VS.skip (ES.seq (VS.seq (VS.drawn ?_)));refine K1 ?_;refine X.lenT ?_;refine X.make 0 (α:=Int) iRow (fun h4=>?_);refine K1 ?_;refine X.lenT ?_;refine X.make 1 (α:=Bool) oRow (fun h5=>?_);refine K2 ?_;refine ND ?_;refine ES.seq (VS.seq (VS.region ?_));refine K1 ?_;refine X.call true [] [] (r23_Order_ok _) (fun x4=>?_);refine K1 ?_;refine NV ?_;refine K1 ?_;refine NO ?_;refine VS.loop (fun jj:Int × List Int × List Bool=>(⟨[(0,wT row_ASlot s1),(1,wT (sR iRow) g1),(2,wI from1),(9,wM 0),(10,wM 1),(11,wT iRow x4),(12,wI jj.1)],[some (.sl 3 1 false (jj.2.1.map iRow)),some (.sl 4 1 false (jj.2.2.map oRow))]⟩:St)) (j0:=(0,(repD (s1.length:Int):List Int),(repD (s1.length:Int):List Bool))) (LSB rfl rfl rfl rfl) ?_;rintro n1 again1 ih_again1 ⟨i1,off1,done1⟩;refine SS ?_;refine K2 ?_;refine X.lenT ?_;refine K1 ?_;refine NS ?_
    refine VS.cond (fun h6=>?_) (fun h6=>?_)
    ·refine KW ?_;refine K2 ?_;refine X.idxT (fun h7=>?_);refine K2 ?_;refine NR ?_;refine K1 ?_;refine NV ?_;refine K1 ?_;refine NO ?_;refine VS.loop (fun jj:Int × List AInterval=>(⟨[(0,wT row_ASlot s1),(1,wT (sR iRow) g1),(2,wI from1),(9,wM 0),(10,wM 1),(11,wT iRow x4),(12,wI i1),(13,wI (atD x4 i1)),(14,wM 2),(15,wI jj.1)],[some (.sl 3 1 false (off1.map iRow)),some (.sl 4 1 false (done1.map oRow)),some (.sl 156 2 false (jj.2.map row_AInterval))]⟩:St)) (j0:=(0,([]:List AInterval))) ((St.le_keep _ [0,1,2,9,10,11,12,13,14,15]).trans ((St.le_adopt _ 14 2 156 2 rfl rfl).trans (LSB rfl rfl rfl rfl))) ?_;rintro n2 again2 ih_again2 ⟨y1,used1⟩;refine SS ?_;refine K2 ?_;refine X.lenT ?_;refine K1 ?_;refine X.nil ?_
     refine ES.seq ?_
     refine VS.cond (fun h8=>?_) (fun h8=>?_)
     ·refine KW ?_;refine K2 ?_;refine X.idxM (l:=done1) (i:=y1) (fun h9=>?_);refine X.ld (i:=y1) h9 ?_;refine K1 ?_
      refine X.bif (fun h10=>?_) (fun h10=>?_)
      ·(iterate 2 refine X.gY h10 ?_;refine K1 ?_);refine X.gY h10 ?_;refine X.idxT (fun h11=>?_);(iterate 2 refine X.gY h10 ?_;refine K1 ?_);refine X.gY h10 ?_;refine X.call true [] [] (r04_Has_ok _ _) (fun x5=>?_);refine X.pT h10 ?_;refine NS ?_
       refine VS.cond (fun h12=>?_) (fun h12=>?_)
       ·refine VS.drawn ?_;refine K3 ?_;refine X.idxM (l:=off1) (i:=y1) (fun h13=>?_);refine X.ld (i:=y1) h13 ?_;refine K2 ?_;refine X.idxT (fun h14=>?_);refine K2 ?_;refine X.build ?_;refine X.bs 3 ([(⟨(atD off1 y1),(atD s1 y1).Size⟩:AInterval)]:List AInterval) row_AInterval ?_;refine X.appMM 4 (l:=used1) (l':=([(⟨(atD off1 y1),(atD s1 y1).Size⟩:AInterval)]:List AInterval)) (fun h15=>?_);refine K1 ?_;refine ND ?_;refine ES.blkN (ES.seq (VS.region ?_));refine K1 ?_;refine X.ck fun h16=>?_;refine K1 ?_;refine X.nil ?_;exact ES.go ih_again2 _ ((St.le_mvB _ 4 2 rfl rfl rfl rfl).trans (LSB rfl rfl rfl rfl))
       ·refine KB ?_;refine K1 ?_;refine X.ck fun h17=>?_;refine K1 ?_;refine X.nil ?_;exact GL ih_again2
      ·(iterate 6 refine X.gN h10 ?_);refine X.pF h10 ?_;refine NS ?_;refine VS.condF rfl ?_;refine KB ?_;refine K1 ?_;refine X.ck fun h18=>?_;refine K1 ?_;refine X.nil ?_;exact GL ih_again2
     ·refine VS.exit (ES.thnE (ES.thnE (ES.blkE (ES.seq (VS.seq (VS.drawn ?_))))));refine K3 ?_;refine K1 ?_;refine X.idxT (fun h19=>?_);refine K3 ?_;refine K1 ?_;refine X.idxT (fun h20=>?_);refine K2 ?_;refine X.call false [(2,.sl 156 2 false (used1.map row_AInterval))] [] (r03_Fit_ok _ _ _ _) (fun x6=>?_) (hn:=⟨rfl,trivial⟩) (hsc:=.inr ⟨rfl,fun _=>rfl⟩);refine K3 ?_;refine K2 ?_;refine ND ?_;refine ES.seq (VS.seq (VS.seq (VS.region ?_)));refine K2 ?_;refine NS ?_
      refine VS.cond (fun h21=>?_) (fun h21=>?_)
      ·refine SR ?_;refine K3 ?_;refine X.nil (ES.seq (VS.ret (ES.thnR (ES.blkR (ES.thnR (ES.thnR (ES.blkR (ES.thnR ?_))))))));exact ES.ret (Ret.weak (St.le_nil _ 6 rfl) (Ret.clo [.c (aT iRow ([]:List Int)),.c (aI x6.2)] ⟨rfl,rfl,trivial⟩ trivial))
      ·refine VS.skip (ES.seq (VS.region ?_));refine K3 ?_;refine K2 ?_;refine X.idxM (l:=off1) (i:=(atD x4 i1)) (fun h22=>?_);refine X.set (i:=(atD x4 i1)) x6.1 h22 ?_;refine X.idxM (l:=done1) (i:=(atD x4 i1)) (fun h23=>?_);refine X.set (i:=(atD x4 i1)) true h23 ?_;refine NB ?_;refine K1 ?_;refine X.ck fun h24=>?_;refine K1 ?_;refine X.nil ?_;exact GL ih_again1
    ·refine XE ?_;refine K3 ?_;refine NT ?_;exact ES.ret (Ret.weak (St.le_tree _ 6 0 rfl rfl) (Ret.clo [.c (aT iRow off1),.c (aI 0)] ⟨rfl,rfl,trivial⟩ trivial))
theorem r21_Replace_ok (p1:AProgram) (i1:Int) (f1:AFunc):∀r:AProgram,r21_Replace p1 i1 f1 r→FC 129 [] [.agg ((row_AProgram p1).map .v),cI i1,.agg ((row_AFunc f1).map .v)] (.w (.agg ((row_AProgram r).map .v))) [] []:=by
 refine fnS 17 ?_;unfold r21_Replace;refine SR ?_;refine X.box 0 ?_;refine X.box 1 ?_;refine X.alloc 2 ?_;refine NR ?_;refine K2 ?_;refine X.appNT 3 (l':=p1.Funcs) (fun h1=>?_);refine K1 ?_;refine NR ?_;refine K3 ?_;refine X.idxM (l:=p1.Funcs) (i:=i1) (fun h2=>?_);refine X.set (i:=i1) f1 h2 ?_;refine NR ?_;refine K1 ?_;refine X.build ?_;refine X.st ?_;refine NT ?_;exact ES.ret (Ret.weak (St.le_tcell _ 2 0 3 rfl rfl rfl rfl) (Ret.clo [.agg ((row_AProgram (⟨(setD p1.Funcs i1 f1)⟩:AProgram)).map .v)] ⟨⟨_,_,_,_,_,_,rfl,rfl,fits rfl,rfl⟩,trivial⟩ trivial))
theorem r31_Only_ok (p1:AProgram) (i1:Int) (f1:AFunc):∀r:AProgram,r31_Only p1 i1 f1 r→FC 84 [] [.agg ((row_AProgram p1).map .v),cI i1,.agg ((row_AFunc f1).map .v)] (.w (.agg ((row_AProgram r).map .v))) [] []:=by
 refine fnS 11 ?_;unfold r31_Only;refine SR ?_;refine X.box 0 ?_;refine X.box 1 ?_;refine X.alloc 2 ?_;refine NR ?_;refine K3 ?_;refine X.call true [] [] (r21_Replace_ok _ _ _) (fun x1=>?_);refine X.st ?_;refine NT ?_;exact ES.ret (Ret.clo [_] ⟨⟨_,_,_,_,_,_,rfl,rfl,fits rfl,rfl⟩,trivial⟩ trivial)
theorem r23_End_ok (s1:List ASlot) (off1:List Int):∀r:Int,r23_End s1 off1 r→FC 128 [] [.c (.v (.tree (s1.map row_ASlot))),.c (.v (.tree (off1.map iRow)))] (.w (cI r)) [] []:=by
 refine fnS 32 ?_;unfold r23_End;refine SR ?_;refine K1 ?_;refine NR ?_;refine K1 ?_;refine NV ?_;refine K1 ?_;refine NO ?_;refine VS.loop (fun jj:Int × Int=>(⟨[(0,wT row_ASlot s1),(1,wT iRow off1),(5,wI jj.1),(6,wI jj.2)],[]⟩:St)) (j0:=(0,0)) (LSB rfl rfl rfl rfl) ?_;rintro n2 again1 ih_again1 ⟨n1,i1⟩;refine SS ?_;refine K2 ?_;refine X.lenT ?_;refine K2 ?_
 refine X.bif (fun h1=>?_) (fun h1=>?_)
 ·(iterate 2 refine X.gY h1 ?_;refine K1 ?_);refine X.gY h1 ?_;refine X.lenT ?_;refine X.gY h1 ?_;refine K1 ?_;refine X.pT h1 ?_;refine NS ?_
  refine VS.cond (fun h2=>?_) (fun h2=>?_)
  ·refine VS.skip (ES.seq (VS.seq (VS.block (VS.drawn ?_))));refine K3 ?_;refine X.idxT (fun h3=>?_);refine K3 ?_;refine X.idxT (fun h4=>?_);refine K2 ?_;refine X.ck fun h5=>?_;refine X.max ?_;refine K1 ?_;refine ND ?_;refine ES.blkN (ES.seq (VS.region ?_));refine K1 ?_;refine X.ck fun h6=>?_;refine K1 ?_;refine X.nil ?_;exact GL ih_again1
  ·refine XE ?_;refine K2 ?_;refine NT ?_;exact ES.ret R1
 ·(iterate 4 refine X.gN h1 ?_);refine X.pF h1 ?_;refine NS ?_;refine VS.condF rfl ?_;refine XE ?_;refine K2 ?_;refine NT ?_;exact ES.ret R1
theorem r24_Finish_ok (p1:AProgram) (i1:Int) (align1:Int) (off1:List Int):∀r:ALayout × Int,r24_Finish p1 i1 align1 off1 r→FC 83 [] [.agg ((row_AProgram p1).map .v),cI i1,cI align1,.c (.v (.tree (off1.map iRow)))] (.tup [.agg ((row_ALayout r.1).map .v),cI r.2]) [] []:=by
 refine fnS 71 ?_;unfold r24_Finish;refine SR ?_;refine X.box 0 ?_;refine X.alloc 1 ?_;refine K1 ?_;refine NR ?_;refine K3 ?_;refine X.idxT (fun h1=>?_);refine K3 ?_;refine NV ?_;(iterate 2 refine K1 ?_;refine X.lenT ?_);refine K1 ?_;refine NS ?_
 refine VS.cond (fun h2=>?_) (fun h2=>?_)
 ·refine SR ?_;refine X.build ?_;refine X.st ?_;refine K1 ?_;refine NU ?_;exact ES.ret (Ret.clo [_,_] ⟨⟨_,_,_,_,_,_,rfl,rfl,fits rfl,rfl⟩,rfl,trivial⟩ trivial)
 ·refine VS.skip (ES.seq (VS.seq (VS.seq (VS.region ?_))));refine K1 ?_;refine NO ?_;refine VS.loop (fun (k1:Int)=>(⟨[(1,wI i1),(2,wI align1),(3,wT iRow off1),(4,wP 0),(8,wP 1),(10,wT row_ASlot ((atD p1.Funcs i1).Slots)),(11,wI k1)],[some (.bx 28 ((row_AProgram p1).map .v)),some (.bx 66 [aI 0,aI 0,aT iRow ([]:List Int)])]⟩:St)) (j0:=0) (LSB rfl rfl rfl rfl) ?_;rintro n1 again1 ih_again1 k1;refine SS ?_;refine K2 ?_;refine X.lenT ?_;refine K1 ?_;refine NS ?_
  refine VS.cond (fun h3=>?_) (fun h3=>?_)
  ·refine VS.skip (ES.seq (VS.seq (VS.block (VS.seq (VS.drawn ?_)))));refine K2 ?_;refine X.idxT (fun h4=>?_);refine K3 ?_;refine X.idxT (fun h5=>?_);refine K2 ?_;refine X.build ?_;refine X.call true [] [] (r03_Right_ok _) (fun x1=>?_);refine K1 ?_;refine ND ?_;refine ES.seq ?_
   refine VS.cond (fun h6=>?_) (fun h6=>?_)
   ·refine SR ?_;refine X.build ?_;refine X.st ?_;refine K1 ?_;refine X.nil (ES.seq (VS.ret (ES.blkR (ES.thnR (ES.thnR (ES.blkR (ES.thnR ?_)))))));exact ES.ret (Ret.clo [_,_] ⟨⟨_,_,_,_,_,_,rfl,rfl,fits rfl,rfl⟩,rfl,trivial⟩ trivial)
   ·refine KB ?_;refine K1 ?_;refine X.ck fun h7=>?_;refine K1 ?_;refine X.nil ?_;exact GL ih_again1
  ·refine XE ?_;refine K2 ?_;refine X.call true [] [] (r24_Args_ok _ _) (fun x2=>?_);refine K1 ?_;refine NR ?_;refine K3 ?_;refine X.call true [] [] (r23_End_ok _ _) (fun x3=>?_);refine X.max ?_;refine K1 ?_;refine X.call true [] [] (r03_Up_ok _ _) (fun x4=>?_);refine K3 ?_;refine K2 ?_;refine NV ?_;refine K3 ?_
   refine X.bif (fun h8=>?_) (fun h8=>?_)
   ·(iterate 2 refine X.gN h8 ?_);refine X.pT h8 ?_;refine NS ?_;refine VS.condT rfl ?_;refine SR ?_;refine X.build ?_;refine X.st ?_;refine K1 ?_;refine NU ?_;exact ES.ret (Ret.clo [_,_] ⟨⟨_,_,_,_,_,_,rfl,rfl,fits rfl,rfl⟩,rfl,trivial⟩ trivial)
   ·(iterate 2 refine X.gY h8 ?_;refine K1 ?_);refine X.pF h8 ?_;refine NS ?_
    refine VS.cond (fun h9=>?_) (fun h9=>?_)
    ·refine SR ?_;refine X.build ?_;refine X.st ?_;refine K1 ?_;refine NU ?_;exact ES.ret (Ret.clo [_,_] ⟨⟨_,_,_,_,_,_,rfl,rfl,fits rfl,rfl⟩,rfl,trivial⟩ trivial)
    ·refine KR ?_;refine K3 ?_;refine X.appNT 2 (l':=off1) (fun h10=>?_);refine X.build ?_;refine X.st ?_;refine K1 ?_;refine NT ?_;exact ES.ret (Ret.weak (St.le_tcell _ 1 2 2 rfl rfl rfl rfl) (Ret.clo [.agg ((row_ALayout (⟨x2,x4.1,off1⟩:ALayout)).map .v),.c (aI 0)] ⟨⟨_,_,_,_,_,_,rfl,rfl,fits rfl,rfl⟩,rfl,trivial⟩ trivial))
theorem r31_Propose_ok (p1:AProgram) (i1:Int):∀r:AProposal,r31_Propose p1 i1 r→FC 48 [] [.agg ((row_AProgram p1).map .v),cI i1] (.w (.agg ((row_AProposal r).map .v))) [] []:=by
 refine fnS 88 ?_;unfold r31_Propose;refine SR ?_;refine X.box 0 ?_;refine X.alloc 1 ?_;refine NR ?_;refine K3 ?_;refine X.idxT (fun h1=>?_);refine K1 ?_;refine X.alloc 2 ?_;refine X.st ?_;refine NR ?_;refine K1 ?_;refine X.call true [] [] (r16_Solve_ok _) (fun x1=>?_);refine X.build ?_;refine X.alloc 3 ?_;refine X.st ?_;refine NR ?_;refine K3 ?_;refine X.call true [] [] (r18_Graph_ok _ _) (fun x2=>?_);refine K3 ?_;refine K2 ?_;refine NR ?_;refine K2 ?_;refine X.call true [] [] (r19_Classes_ok _ _) (fun x3=>?_);refine K2 ?_;refine X.st ?_;refine NR ?_;refine K3 ?_;refine K3 ?_;refine X.call true [] [] (r20_Keep_ok _ _ _) (fun x4=>?_);refine K2 ?_;refine X.st ?_;refine NS ?_;refine VS.weak (s':=(⟨[(1,wI i1),(2,wP 0),(4,wP 1),(5,wP 2),(6,wP 3)],[some (.bx 28 ((row_AProgram p1).map .v)),some (.bx 122 [aT (sR iRow) ([]:List (List Int)),aT iRow ([]:List Int),aT oRow ([]:List Bool),aT (sR iRow) ([]:List (List Int)),aI 0,aI 0,aT iRow ([]:List Int)]),some (.bx 60 ((row_AFunc (atD p1.Funcs i1)).map .v)),some (.bx 122 [aT (sR iRow) x1.Out,aT iRow x3,aT oRow x4,aT (sR iRow) ([]:List (List Int)),aI 0,aI 0,aT iRow ([]:List Int)])]⟩:St)) (LSB rfl rfl rfl rfl) ?_
 refine SR ?_;refine K3 ?_;refine X.call true [] [] (r21_Apply_ok _ _) (fun x5=>?_);refine K3 ?_;refine X.alloc 4 ?_;refine X.st ?_;refine K1 ?_;refine NR ?_;refine K1 ?_;refine X.call true [] [] (r16_Solve_ok _) (fun x6=>?_);refine K1 ?_;refine X.st ?_;refine NR ?_;refine K3 ?_;refine X.call true [] [] (r18_Strict_ok _ _) (fun x7=>?_);refine K3 ?_;refine K2 ?_;refine X.nil (ES.seq (VS.seq (VS.drawn ?_)));refine K3 ?_;refine K2 ?_;refine X.call true [] [] (r24_Args_ok _ _) (fun x8=>?_);refine X.call true [] [] (r23_Assign_ok _ _ _) (fun x9=>?_);refine K3 ?_;refine K2 ?_;refine ND ?_;refine ES.seq (VS.seq ?_);refine VS.weak (s':=(⟨[(1,wI i1),(2,wP 0),(4,wP 1),(6,wP 3),(9,wP 4),(13,wT iRow x9.1),(14,wI x9.2)],[some (.bx 28 ((row_AProgram p1).map .v)),some (.bx 122 [aT (sR iRow) ([]:List (List Int)),aT iRow ([]:List Int),aT oRow ([]:List Bool),aT (sR iRow) ([]:List (List Int)),aI 0,aI 0,aT iRow ([]:List Int)]),some (.bx 60 ((row_AFunc (atD p1.Funcs i1)).map .v)),some (.bx 122 [aT (sR iRow) x1.Out,aT iRow x3,aT oRow x4,aT (sR iRow) x6.Out,aI 0,aI 0,aT iRow ([]:List Int)]),some (.bx 60 ((row_AFunc x5.1).map .v))]⟩:St)) (LSB rfl rfl rfl rfl) ?_
 refine SR ?_;refine K2 ?_;refine NS ?_
 refine VS.cond (fun h2=>?_) (fun h2=>?_)
 ·refine SR ?_;refine K1 ?_;refine X.st ?_;refine NU ?_;exact ES.ret (Ret.clo [_] ⟨⟨_,_,_,_,_,_,rfl,rfl,fits rfl,rfl⟩,trivial⟩ trivial)
 ·refine VS.skip (ES.seq (VS.seq (VS.drawn ?_)));refine K3 ?_;refine X.call true [] [] (r31_Only_ok _ _ _) (fun x10=>?_);refine K2 ?_;refine X.call true [] [] (r05_Align_ok _) (fun x11=>?_);refine K1 ?_;refine X.call true [] [] (r24_Finish_ok _ _ _ _) (fun x12=>?_);refine K3 ?_;refine K1 ?_;refine X.st ?_;refine ND ?_;refine ES.seq (VS.seq (VS.region ?_));refine K1 ?_;refine X.st ?_;refine NT ?_;exact ES.ret (Ret.clo [_] ⟨⟨_,_,_,_,_,_,rfl,rfl,fits rfl,rfl⟩,trivial⟩ trivial)
theorem draw_Int_ok (c1:DCodes):∀r:Int × DCodes,draw_Int c1 r→FC 49 [(68,row_DCodes c1)] [.c (.ptr 0 0 0)] (.w (cI r.1)) [] [(68,row_DCodes r.2)]:=by
 refine fnS 25 ?_;unfold draw_Int;refine SR ?_;refine K1 ?_;refine NR ?_;refine K1 ?_;refine X.call true [] [0] (draw_Next_ok _ _) (fun x1=>?_);refine K1 ?_;refine NV ?_;refine K2 ?_;refine NS ?_
 refine VS.cond (fun h1=>?_) (fun h1=>?_)
 ·refine SR ?_;refine X.bs 1 ([9223372036854775807,(-9223372036854775808),2147483648,2147483647,(-1),16777216,33554432,1048577,512,80]:List Int) iRow ?_;refine K1 ?_;refine NR ?_;refine K3 ?_;refine X.lenM (l:=([9223372036854775807,(-9223372036854775808),2147483648,2147483647,(-1),16777216,33554432,1048577,512,80]:List Int)) ?_;refine X.call true [] [0] (draw_Next_ok _ _) (fun x2=>?_);refine X.idxM (l:=([9223372036854775807,(-9223372036854775808),2147483648,2147483647,(-1),16777216,33554432,1048577,512,80]:List Int)) (i:=x2.1) (fun h2=>?_);refine X.ld (i:=x2.1) h2 ?_;refine K1 ?_;refine NU ?_;exact ES.ret (Ret.clo [_] ⟨rfl,trivial⟩ ⟨rfl,trivial⟩)
 ·refine KR ?_;refine K1 ?_;refine X.call true [] [0] (draw_Next_ok _ _) (fun x3=>?_);refine K1 ?_;refine X.call true [] [0] (draw_Next_ok _ _) (fun x4=>?_);refine X.shr (fun h3=>?_) (.inl rfl);refine K1 ?_;refine X.ck fun h4=>?_;refine X.ck fun h5=>?_;refine K1 ?_;refine NT ?_;exact ES.ret (Ret.clo [_] ⟨rfl,trivial⟩ ⟨rfl,trivial⟩)
end Go.Proofs.YtgbkhjllbgmdcaaGreat.Q
