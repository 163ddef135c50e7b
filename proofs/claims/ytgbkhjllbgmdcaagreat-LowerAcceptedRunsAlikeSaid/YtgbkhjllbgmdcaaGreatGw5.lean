/- Walks of functions: the code does what the lifted text says (written by a program). -/
import Derived.Test.YtgbkhjllbgmdcaaGreatLR
import Derived.Test.YtgbkhjllbgmdcaaGreatGw4
set_option linter.unusedVariables false
set_option linter.unusedSimpArgs false
set_option maxRecDepth 8000
namespace Go.Proofs.YtgbkhjllbgmdcaaGreat.Q
open Go.RowKit
set_option maxHeartbeats 4000000
theorem r19_Members_ok (to1:List Int) (s1:Int):∀r:List Int,r19_Members to1 s1 r→FC 119 [] [.c (.v (.tree (to1.map iRow))),cI s1] (.w (.c (.v (.tree (r.map iRow))))) [] []:=by
 refine fnS 24 ?_;unfold r19_Members;refine SR ?_;refine K1 ?_;refine NR ?_;refine K1 ?_;refine NV ?_;refine K1 ?_;refine NO ?_;refine VS.loop (fun jj:Int × List Int=>(⟨[(0,wT iRow to1),(1,wI s1),(5,wM 0),(6,wI jj.1)],[some (.sl 3 1 false (jj.2.map iRow))]⟩:St)) (j0:=(0,([]:List Int))) ((St.le_keep _ [0,1,5,6]).trans ((St.le_adopt _ 5 0 3 1 rfl rfl).trans (LSB rfl rfl rfl rfl))) ?_;rintro n1 again1 ih_again1 ⟨t1,out1⟩;refine SS ?_;refine K2 ?_;refine X.lenT ?_;refine K1 ?_;refine NS ?_
 refine VS.cond (fun h1=>?_) (fun h1=>?_)
 ·refine KW ?_;refine K2 ?_;refine X.idxT (fun h2=>?_);refine K3 ?_;refine NS ?_
  refine VS.cond (fun h3=>?_) (fun h3=>?_)
  ·refine VS.region ?_;refine K2 ?_;refine X.bs 1 ([t1]:List Int) iRow ?_;refine X.appMM 2 (l:=out1) (l':=([t1]:List Int)) (fun h4=>?_);refine K1 ?_;refine NB ?_;refine K1 ?_;refine X.ck fun h5=>?_;refine K1 ?_;refine X.nil ?_;exact ES.go ih_again1 _ ((St.le_mvB _ 2 0 rfl rfl rfl rfl).trans (LSB rfl rfl rfl rfl))
  ·refine KB ?_;refine K1 ?_;refine X.ck fun h6=>?_;refine K1 ?_;refine X.nil ?_;exact GL ih_again1
 ·refine XE ?_;refine K2 ?_;refine NT ?_;exact ES.ret (Ret.weak (St.le_tree _ 4 0 rfl rfl) (Ret.clo [.c (aT iRow out1)] ⟨rfl,trivial⟩ trivial))
theorem r19_apart_ok (g1:List (List Int)) (to1:List Int) (a1:Int) (b1:Int):∀r:Bool,r19_apart g1 to1 a1 b1 r→FC 115 [] [.c (.v (.tree (g1.map (sR iRow)))),.c (.v (.tree (to1.map iRow))),cI a1,cI b1] (.w (.c (.v (.bool r)))) [] []:=by
 refine fnS 43 ?_;unfold r19_apart;refine SR ?_;refine K1 ?_;refine NR ?_;refine K2 ?_;refine X.call true [] [] (r19_Members_ok _ _) (fun x1=>?_);refine K2 ?_;refine X.call true [] [] (r19_Members_ok _ _) (fun x2=>?_);refine K2 ?_;refine NV ?_;refine K1 ?_;refine NO ?_;refine VS.loop (fun (i1:Int)=>(⟨[(0,wT (sR iRow) g1),(9,wT iRow x1),(10,wT iRow x2),(11,wI i1)],[]⟩:St)) (j0:=0) (LSB rfl rfl rfl rfl) ?_;rintro n1 again1 ih_again1 i1;refine SS ?_;refine K2 ?_;refine X.lenT ?_;refine K1 ?_;refine NS ?_
 refine VS.cond (fun h1=>?_) (fun h1=>?_)
 ·refine KW ?_;refine K1 ?_;refine NO ?_;refine VS.loop (fun (k1:Int)=>(⟨[(0,wT (sR iRow) g1),(9,wT iRow x1),(10,wT iRow x2),(11,wI i1),(12,wI k1)],[]⟩:St)) (j0:=0) (LSB rfl rfl rfl rfl) ?_;rintro n2 again2 ih_again2 k1;refine SS ?_;refine K2 ?_;refine X.lenT ?_;refine K1 ?_;refine NS ?_
  refine VS.cond (fun h2=>?_) (fun h2=>?_)
  ·refine VS.skip (ES.seq (VS.seq (VS.block (VS.seq (VS.drawn ?_)))));refine K3 ?_;refine X.idxT (fun h3=>?_);refine K1 ?_;refine X.idxT (fun h4=>?_);refine K3 ?_;refine X.idxT (fun h5=>?_);refine K1 ?_;refine X.call true [] [] (r04_Has_ok _ _) (fun x3=>?_);refine ND ?_;refine ES.seq ?_
   refine VS.cond (fun h6=>?_) (fun h6=>?_)
   ·refine SR ?_;refine K1 ?_;refine X.nil (ES.seq (VS.ret (ES.blkR (ES.thnR (ES.thnR (ES.blkR (ES.blkR (ES.thnR (ES.thnR (ES.blkR (ES.thnR ?_)))))))))));exact ES.ret R1
   ·refine KB ?_;refine K1 ?_;refine X.ck fun h7=>?_;refine K1 ?_;refine X.nil ?_;exact GL ih_again2
  ·refine VS.exit (ES.thnE (ES.thnE (ES.blkE (ES.blkN (ES.seq (VS.region ?_))))));refine K1 ?_;refine X.ck fun h8=>?_;refine K1 ?_;refine X.nil ?_;exact GL ih_again1
 ·refine XE ?_;refine K1 ?_;refine NT ?_;exact ES.ret R1
theorem r19_Classes_ok (f1:AFunc) (g1:List (List Int)):∀r:List Int,r19_Classes f1 g1 r→FC 78 [] [.agg ((row_AFunc f1).map .v),.c (.v (.tree (g1.map (sR iRow))))] (.w (.c (.v (.tree (r.map iRow))))) [] []:=by
 refine fnS 85 ?_;unfold r19_Classes;refine SR ?_;refine X.box 0 ?_;refine K1 ?_;refine NR ?_;refine K1 ?_;refine NV ?_;refine K1 ?_;refine NO ?_;refine VS.loop (fun jj:Int × List Int=>(⟨[(1,wT (sR iRow) g1),(2,wP 0),(5,wM 1),(6,wI jj.1)],[some (.bx 60 ((row_AFunc f1).map .v)),some (.sl 3 1 false (jj.2.map iRow))]⟩:St)) (j0:=(0,([]:List Int))) ((St.le_keep _ [1,2,5,6]).trans ((St.le_adopt _ 5 1 3 1 rfl rfl).trans (LSB rfl rfl rfl rfl))) ?_;rintro n1 again1 ih_again1 ⟨s1,to1⟩;refine SS ?_;refine K3 ?_;refine X.lenT ?_;refine K1 ?_;refine NS ?_
 refine VS.cond (fun h1=>?_) (fun h1=>?_)
 ·refine VS.skip (ES.seq (VS.seq (VS.block (VS.region ?_))));refine K2 ?_;refine X.bs 2 ([s1]:List Int) iRow ?_;refine X.appMM 3 (l:=to1) (l':=([s1]:List Int)) (fun h2=>?_);refine K1 ?_;refine NB ?_;refine K1 ?_;refine X.ck fun h3=>?_;refine K1 ?_;refine X.nil ?_;exact ES.go ih_again1 _ ((St.le_mvB _ 3 1 rfl rfl rfl rfl).trans (LSB rfl rfl rfl rfl))
 ·refine XE ?_;refine K1 ?_;refine X.call true [] [] (r18_Moves_ok _) (fun x1=>?_);refine K1 ?_;refine NV ?_;refine K1 ?_;refine NO ?_;refine VS.loop (fun jj:Int × List Int=>(⟨[(1,wT (sR iRow) g1),(5,wM 0),(7,wT row_Arr2Int x1),(8,wI jj.1)],[some (.sl 3 1 false (jj.2.map iRow))]⟩:St)) (j0:=(0,to1)) ((St.le_drop _ 0 (Nat.le_of_ble_eq_true rfl)).trans ((St.le_mvB _ 1 0 rfl rfl rfl rfl).trans (LSB rfl rfl rfl rfl))) ?_;rintro n2 again2 ih_again2 ⟨i1,to2⟩;refine SS ?_;refine K2 ?_;refine X.lenT ?_;refine K1 ?_;refine NS ?_
  refine VS.cond (fun h4=>?_) (fun h4=>?_)
  ·refine VS.skip (ES.seq (VS.seq (VS.block (VS.seq (VS.drawn ?_)))));refine K3 ?_;refine X.idxT (fun h5=>?_);refine X.idxAT 0 ?_;refine K1 ?_;refine X.idxM (l:=to2) (i:=(atD x1 i1).e0) (fun h6=>?_);refine X.ld (i:=(atD x1 i1).e0) h6 ?_;refine K3 ?_;refine X.idxT (fun h7=>?_);refine X.idxAT 1 ?_;refine K1 ?_;refine X.idxM (l:=to2) (i:=(atD x1 i1).e1) (fun h8=>?_);refine X.ld (i:=(atD x1 i1).e1) h8 ?_;refine K2 ?_;refine ND ?_;refine ES.seq (VS.seq (VS.seq (VS.region ?_)));refine K3 ?_;refine K1 ?_
   refine X.bif (fun h9=>?_) (fun h9=>?_)
   ·(iterate 6 refine X.gN h9 ?_);refine X.pT h9 ?_;refine NS ?_;refine VS.condT rfl ?_;refine VS.exit (ES.thnE (ES.blkE (ES.seq (VS.region ?_))));refine K1 ?_;refine X.ck fun h10=>?_;refine K1 ?_;refine X.nil ?_;exact GL ih_again2
   ·(iterate 4 refine X.gY h9 ?_;refine K1 ?_);refine X.gY h9 ?_;refine X.call false [(0,.sl 3 1 false (to2.map iRow))] [] (r19_apart_ok _ _ _ _) (fun x2=>?_) (hn:=⟨rfl,trivial⟩) (hsc:=.inr ⟨rfl,fun _=>rfl⟩);refine X.gY h9 ?_;refine K1 ?_;refine X.pF h9 ?_;refine NS ?_
    refine VS.cond (fun h11=>?_) (fun h11=>?_)
    ·refine VS.exit (ES.thnE (ES.blkE (ES.seq (VS.region ?_))));refine K1 ?_;refine X.ck fun h12=>?_;refine K1 ?_;refine X.nil ?_;exact GL ih_again2
    ·refine KR ?_;refine K1 ?_;refine NO ?_;refine VS.loop (fun jj:Int × List Int=>(⟨[(1,wT (sR iRow) g1),(5,wM 0),(7,wT row_Arr2Int x1),(8,wI i1),(9,wI (atD to2 ((atD x1 i1).e0))),(10,wI (atD to2 ((atD x1 i1).e1))),(11,wI jj.1),(51,wT (sR iRow) g1),(52,wM 0),(53,wI (atD to2 ((atD x1 i1).e0))),(54,wI (atD to2 ((atD x1 i1).e1))),(55,.w (.c (.v (.bool x2)))),(56,.w (.c (.v (.bool (!x2)))))],[some (.sl 3 1 false (jj.2.map iRow))]⟩:St)) (j0:=(0,to2)) (LSB rfl rfl rfl rfl) ?_;rintro n3 again3 ih_again3 ⟨s2,to3⟩;refine SS ?_;refine K2 ?_;refine X.lenM (l:=to3) ?_;refine K1 ?_;refine NS ?_
     refine VS.cond (fun h13=>?_) (fun h13=>?_)
     ·refine KW ?_;refine K2 ?_;refine X.idxM (l:=to3) (i:=s2) (fun h14=>?_);refine X.ld (i:=s2) h14 ?_;refine K3 ?_
      refine X.bif (fun h15=>?_) (fun h15=>?_)
      ·(iterate 6 refine X.gN h15 ?_);refine X.pT h15 ?_;refine NS ?_;refine VS.condT rfl ?_;refine VS.region ?_;refine K3 ?_;refine K1 ?_;refine X.min ?_;refine X.idxM (l:=to3) (i:=s2) (fun h16=>?_);refine X.set (i:=s2) (min (atD to2 ((atD x1 i1).e0)) (atD to2 ((atD x1 i1).e1))) h16 ?_;refine NB ?_;refine K1 ?_;refine X.ck fun h17=>?_;refine K1 ?_;refine X.nil ?_;exact GL ih_again3
      ·(iterate 2 refine X.gY h15 ?_;refine K1 ?_);refine X.gY h15 ?_;refine X.idxM (l:=to3) (i:=s2) (fun h18=>?_);refine X.gY h15 ?_;refine X.ld (i:=s2) h18 ?_;(iterate 2 refine X.gY h15 ?_;refine K1 ?_);refine X.pF h15 ?_;refine NS ?_
       refine VS.cond (fun h19=>?_) (fun h19=>?_)
       ·refine VS.region ?_;refine K3 ?_;refine K1 ?_;refine X.min ?_;refine X.idxM (l:=to3) (i:=s2) (fun h20=>?_);refine X.set (i:=s2) (min (atD to2 ((atD x1 i1).e0)) (atD to2 ((atD x1 i1).e1))) h20 ?_;refine NB ?_;refine K1 ?_;refine X.ck fun h21=>?_;refine K1 ?_;refine X.nil ?_;exact GL ih_again3
       ·refine KB ?_;refine K1 ?_;refine X.ck fun h22=>?_;refine K1 ?_;refine X.nil ?_;exact GL ih_again3
     ·refine VS.exit (ES.thnE (ES.thnE (ES.blkE (ES.blkN (ES.seq (VS.region ?_))))));refine K1 ?_;refine X.ck fun h23=>?_;refine K1 ?_;refine X.nil ?_;exact GL ih_again2
  ·refine XE ?_;refine K2 ?_;refine NT ?_;exact ES.ret (Ret.weak (St.le_tree _ 4 0 rfl rfl) (Ret.clo [.c (aT iRow to2)] ⟨rfl,trivial⟩ trivial))
theorem r20_dead_ok (f1:AFunc) (l1:ALive) (k1:Int):∀r:Bool,r20_dead f1 l1 k1 r→FC 116 [] [.agg ((row_AFunc f1).map .v),.agg ((row_ALive l1).map .v),cI k1] (.w (.c (.v (.bool r)))) [] []:=by
 refine fnS 29 ?_;unfold r20_dead;refine SR ?_;refine X.box 0 ?_;refine X.box 1 ?_;refine K1 ?_;refine NR ?_;refine K3 ?_;refine X.idxT (fun h1=>?_);refine K1 ?_;refine X.call true [] [] (r15_Defines_ok _) (fun x1=>?_);refine K3 ?_;refine K2 ?_;refine NR ?_;refine K2 ?_
 refine X.bif (fun h2=>?_) (fun h2=>?_)
 ·(iterate 3 refine X.gY h2 ?_;refine K1 ?_);refine X.gY h2 ?_;refine X.idxT (fun h3=>?_);(iterate 2 refine X.gY h2 ?_;refine K1 ?_);refine X.gY h2 ?_;refine X.call true [] [] (r04_Has_ok _ _) (fun x2=>?_);refine X.gY h2 ?_;refine K1 ?_;refine X.pT h2 ?_;refine K1 ?_;refine NT ?_;exact ES.ret R1
 ·(iterate 8 refine X.gN h2 ?_);refine X.pF h2 ?_;refine K1 ?_;refine NT ?_;exact ES.ret R1
theorem r20_Keep_ok (f1:AFunc) (l1:ALive) (to1:List Int):∀r:List Bool,r20_Keep f1 l1 to1 r→FC 79 [] [.agg ((row_AFunc f1).map .v),.agg ((row_ALive l1).map .v),.c (.v (.tree (to1.map iRow)))] (.w (.c (.v (.tree (r.map oRow))))) [] []:=by
 refine fnS 50 ?_;unfold r20_Keep;refine SR ?_;refine X.box 0 ?_;refine X.box 1 ?_;refine K1 ?_;refine NR ?_;refine K1 ?_;refine NV ?_;refine K1 ?_;refine NO ?_;refine VS.loop (fun jj:Int × List Bool=>(⟨[(2,wT iRow to1),(3,wP 0),(4,wP 1),(7,wM 2),(8,wI jj.1)],[some (.bx 60 ((row_AFunc f1).map .v)),some (.bx 87 ((row_ALive l1).map .v)),some (.sl 4 1 false (jj.2.map oRow))]⟩:St)) (j0:=(0,([]:List Bool))) ((St.le_keep _ [2,3,4,7,8]).trans ((St.le_adopt _ 7 2 4 1 rfl rfl).trans (LSB rfl rfl rfl rfl))) ?_;rintro n1 again1 ih_again1 ⟨k1,out1⟩;refine SS ?_;refine K3 ?_;refine X.lenT ?_;refine K1 ?_;refine NS ?_
 refine VS.cond (fun h1=>?_) (fun h1=>?_)
 ·refine KW ?_;refine K3 ?_;refine X.idxT (fun h2=>?_);refine K1 ?_;refine X.alloc 3 ?_;refine X.st ?_;refine X.nil (ES.seq (VS.drawn ?_));refine K3 ?_;refine K1 ?_;refine X.call true [] [] (r20_dead_ok _ _ _) (fun x1=>?_);refine K2 ?_
  refine X.bif (fun h3=>?_) (fun h3=>?_)
  ·(iterate 4 refine X.gY h3 ?_;refine K1 ?_)
   refine X.bif (fun h4=>?_) (fun h4=>?_)
   ·(iterate 3 refine X.gY h4 ?_;refine K1 ?_);refine X.gY h4 ?_;refine X.idxT (fun h5=>?_);(iterate 4 refine X.gY h4 ?_;refine K1 ?_);refine X.gY h4 ?_;refine X.idxT (fun h6=>?_);(iterate 2 refine X.gY h4 ?_;refine K1 ?_);refine X.gY h3 ?_;refine X.pT h4 ?_;refine X.gY h3 ?_;refine K1 ?_;refine X.pT h3 ?_;refine X.bs 4 ([(!(decide ((atD to1 ((atD f1.Code k1).A))=(atD to1 ((atD f1.Code k1).B)))))]:List Bool) oRow ?_;refine X.appMM 5 (l:=out1) (l':=([(!(decide ((atD to1 ((atD f1.Code k1).A))=(atD to1 ((atD f1.Code k1).B)))))]:List Bool)) (fun h7=>?_);refine K1 ?_;refine ND ?_;refine ES.blkN (ES.seq (VS.region ?_));refine K1 ?_;refine X.ck fun h8=>?_;refine K1 ?_;refine X.nil ?_;exact ES.go ih_again1 _ ((St.le_mvB _ 5 2 rfl rfl rfl rfl).trans (LSB rfl rfl rfl rfl))
   ·(iterate 11 refine X.gN h4 ?_);refine X.gY h3 ?_;refine X.pF h4 ?_;refine X.gY h3 ?_;refine K1 ?_;refine X.pT h3 ?_;refine X.bs 4 ([(!false)]:List Bool) oRow ?_;refine X.appMM 5 (l:=out1) (l':=([(!false)]:List Bool)) (fun h9=>?_);refine K1 ?_;refine ND ?_;refine ES.blkN (ES.seq (VS.region ?_));refine K1 ?_;refine X.ck fun h10=>?_;refine K1 ?_;refine X.nil ?_;exact ES.go ih_again1 _ ((St.le_mvB _ 5 2 rfl rfl rfl rfl).trans (LSB rfl rfl rfl rfl))
  ·(iterate 4 refine X.gN h3 ?_);(iterate 11 refine X.gU ?_);(iterate 2 refine X.gN h3 ?_);refine X.pF h3 ?_;refine X.bs 4 ([false]:List Bool) oRow ?_;refine X.appMM 5 (l:=out1) (l':=([false]:List Bool)) (fun h11=>?_);refine K1 ?_;refine ND ?_;refine ES.blkN (ES.seq (VS.region ?_));refine K1 ?_;refine X.ck fun h12=>?_;refine K1 ?_;refine X.nil ?_;exact ES.go ih_again1 _ ((St.le_mvB _ 5 2 rfl rfl rfl rfl).trans (LSB rfl rfl rfl rfl))
 ·refine XE ?_;refine K2 ?_;refine NT ?_;exact ES.ret (Ret.weak (St.le_tree _ 6 2 rfl rfl) (Ret.clo [.c (aT oRow out1)] ⟨rfl,trivial⟩ trivial))
theorem r19_Valid_ok (f1:AFunc) (to1:List Int):∀r:Bool,r19_Valid f1 to1 r→FC 160 [] [.agg ((row_AFunc f1).map .v),.c (.v (.tree (to1.map iRow)))] (.w (.c (.v (.bool r)))) [] []:=by
 refine fnS 69 ?_;unfold r19_Valid;refine SR ?_;refine X.box 0 ?_;refine K1 ?_;refine NV ?_;refine K1 ?_;refine X.lenT ?_;refine K2 ?_;refine X.lenT ?_;refine K1 ?_;refine NS ?_
 refine VS.cond (fun h1=>?_) (fun h1=>?_)
 ·refine SR ?_;refine K1 ?_;refine NU ?_;exact ES.ret R1
 ·refine VS.skip (ES.seq (VS.seq (VS.seq (VS.region ?_))));refine K1 ?_;refine NO ?_;refine VS.loop (fun (s1:Int)=>(⟨[(1,wT iRow to1),(2,wP 0),(5,wI s1)],[some (.bx 60 ((row_AFunc f1).map .v))]⟩:St)) (j0:=0) (LSB rfl rfl rfl rfl) ?_;rintro n1 again1 ih_again1 s1;refine SS ?_;refine K2 ?_;refine X.lenT ?_;refine K1 ?_;refine NS ?_
  refine VS.cond (fun h2=>?_) (fun h2=>?_)
  ·refine KW ?_;refine K2 ?_;refine X.idxT (fun h3=>?_);refine K3 ?_
   refine X.bif (fun h4=>?_) (fun h4=>?_)
   ·(iterate 7 refine X.gN h4 ?_);refine X.pT h4 ?_;refine NS ?_;refine VS.condT rfl ?_;refine SR ?_;refine K1 ?_;refine X.nil (ES.seq (VS.ret (ES.blkR (ES.thnR (ES.thnR (ES.blkR (ES.thnR ?_)))))));exact ES.ret R1
   ·(iterate 2 refine X.gY h4 ?_;refine K1 ?_);refine X.gY h4 ?_;refine X.idxT (fun h5=>?_);(iterate 2 refine X.gY h4 ?_;refine K1 ?_);refine X.gY h4 ?_;refine X.lenT ?_;refine X.gY h4 ?_;refine K1 ?_;refine X.pF h4 ?_;refine NS ?_
    refine VS.cond (fun h6=>?_) (fun h6=>?_)
    ·refine SR ?_;refine K1 ?_;refine X.nil (ES.seq (VS.ret (ES.blkR (ES.thnR (ES.thnR (ES.blkR (ES.thnR ?_)))))));exact ES.ret R1
    ·refine KB ?_;refine K1 ?_;refine X.ck fun h7=>?_;refine K1 ?_;refine X.nil ?_;exact GL ih_again1
  ·refine VS.exit (ES.thnE (ES.thnE (ES.blkE (ES.seq (VS.seq (VS.seq (VS.region ?_)))))));refine K1 ?_;refine NO ?_;refine VS.loop (fun (s2:Int)=>(⟨[(1,wT iRow to1),(2,wP 0),(6,wI s2)],[some (.bx 60 ((row_AFunc f1).map .v))]⟩:St)) (j0:=0) (LSB rfl rfl rfl rfl) ?_;rintro n2 again2 ih_again2 s2;refine SS ?_;refine K2 ?_;refine X.lenT ?_;refine K1 ?_;refine NS ?_
   refine VS.cond (fun h8=>?_) (fun h8=>?_)
   ·refine VS.skip (ES.seq (VS.seq (VS.block (VS.seq (VS.drawn ?_)))));refine K3 ?_;refine K1 ?_;refine X.idxT (fun h9=>?_);refine K1 ?_;refine X.idxT (fun h10=>?_);refine K3 ?_;refine K2 ?_;refine X.idxT (fun h11=>?_);refine K3 ?_;refine K1 ?_
    refine X.bif (fun h12=>?_) (fun h12=>?_)
    ·(iterate 12 refine X.gN h12 ?_);refine X.pT h12 ?_;refine ND ?_;refine ES.seq ?_;refine VS.condT rfl ?_;refine SR ?_;refine K1 ?_;refine X.nil (ES.seq (VS.ret (ES.blkR (ES.thnR (ES.thnR (ES.blkR (ES.thnR ?_)))))));exact ES.ret R1
    ·(iterate 3 refine X.gY h12 ?_;refine K1 ?_);refine X.gY h12 ?_;refine X.idxT (fun h13=>?_);refine X.gY h12 ?_;refine K1 ?_;refine X.gY h12 ?_;refine X.idxT (fun h14=>?_);(iterate 3 refine X.gY h12 ?_;refine K1 ?_);refine X.gY h12 ?_;refine X.idxT (fun h15=>?_);(iterate 2 refine X.gY h12 ?_;refine K1 ?_);refine X.pF h12 ?_;refine ND ?_;refine ES.seq ?_
     refine VS.cond (fun h16=>?_) (fun h16=>?_)
     ·refine SR ?_;refine K1 ?_;refine X.nil (ES.seq (VS.ret (ES.blkR (ES.thnR (ES.thnR (ES.blkR (ES.thnR ?_)))))));exact ES.ret R1
     ·refine KB ?_;refine K1 ?_;refine X.ck fun h17=>?_;refine K1 ?_;refine X.nil ?_;exact GL ih_again2
   ·refine XE ?_;refine K1 ?_;refine NT ?_;exact ES.ret R1
theorem r21_Check_ok (f1:AFunc) (r1:ARename):∀r:Int,r21_Check f1 r1 r→FC 117 [] [.agg ((row_AFunc f1).map .v),.agg ((row_ARename r1).map .v)] (.w (cI r)) [] []:=by
 refine fnS 42 ?_;unfold r21_Check;refine SR ?_;refine X.box 0 ?_;refine X.box 1 ?_;refine K1 ?_;refine NV ?_;refine K3 ?_;refine X.call true [] [] (r19_Valid_ok _ _) (fun x1=>?_);refine K2 ?_
 refine X.bif (fun h1=>?_) (fun h1=>?_)
 ·(iterate 7 refine X.gN h1 ?_);refine X.pT h1 ?_;refine NS ?_;refine VS.condT rfl ?_;refine SR ?_;refine K1 ?_;refine NU ?_;exact ES.ret R1
 ·(iterate 2 refine X.gY h1 ?_;refine K1 ?_;refine X.gY h1 ?_;refine K1 ?_;refine X.gY h1 ?_;refine X.lenT ?_);refine X.gY h1 ?_;refine K1 ?_;refine X.pF h1 ?_;refine NS ?_
  refine VS.cond (fun h2=>?_) (fun h2=>?_)
  ·refine SR ?_;refine K1 ?_;refine NU ?_;exact ES.ret R1
  ·refine VS.skip (ES.seq (VS.seq (VS.seq (VS.region ?_))));refine K1 ?_;refine NO ?_;refine VS.loop (fun (k1:Int)=>(⟨[(2,wP 0),(3,wP 1),(5,wI k1)],[some (.bx 60 ((row_AFunc f1).map .v)),some (.bx 120 ((row_ARename r1).map .v))]⟩:St)) (j0:=0) (LSB rfl rfl rfl rfl) ?_;rintro n1 again1 ih_again1 k1;refine SS ?_;refine K3 ?_;refine X.lenT ?_;refine K1 ?_;refine NS ?_
   refine VS.cond (fun h3=>?_) (fun h3=>?_)
   ·refine KW ?_;refine K3 ?_;refine X.idxT (fun h4=>?_);refine K3 ?_
    refine X.bif (fun h5=>?_) (fun h5=>?_)
    ·(iterate 3 refine X.gY h5 ?_;refine K1 ?_);refine X.gY h5 ?_;refine X.idxT (fun h6=>?_);refine X.gY h5 ?_;refine K1 ?_;refine X.gY h5 ?_;refine X.call true [] [] (r15_Removable_ok _) (fun x2=>?_);refine X.gY h5 ?_;refine K1 ?_;refine X.pT h5 ?_;refine NS ?_
     refine VS.cond (fun h7=>?_) (fun h7=>?_)
     ·refine SR ?_;refine K1 ?_;refine X.nil (ES.seq (VS.ret (ES.blkR (ES.thnR (ES.thnR (ES.blkR (ES.thnR ?_)))))));exact ES.ret R1
     ·refine KB ?_;refine K1 ?_;refine X.ck fun h8=>?_;refine K1 ?_;refine X.nil ?_;exact GL ih_again1
    ·(iterate 7 refine X.gN h5 ?_);refine X.pF h5 ?_;refine NS ?_;refine VS.condF rfl ?_;refine KB ?_;refine K1 ?_;refine X.ck fun h9=>?_;refine K1 ?_;refine X.nil ?_;exact GL ih_again1
   ·refine XE ?_;refine K1 ?_;refine NT ?_;exact ES.ret R1
theorem r15_renamed_ok (s1:Int) (to1:List Int):∀r:Int,r15_renamed s1 to1 r→FC 163 [] [cI s1,.c (.v (.tree (to1.map iRow)))] (.w (cI r)) [] []:=by
 refine fnS 18 ?_;unfold r15_renamed;refine SR ?_;refine K1 ?_;refine NV ?_;refine K3 ?_
 refine X.bif (fun h1=>?_) (fun h1=>?_)
 ·(iterate 4 refine X.gN h1 ?_);refine X.pT h1 ?_;refine NS ?_;refine VS.condT rfl ?_;refine SR ?_;refine K2 ?_;refine NU ?_;exact ES.ret R1
 ·(iterate 2 refine X.gY h1 ?_;refine K1 ?_);refine X.gY h1 ?_;refine X.lenT ?_;refine X.gY h1 ?_;refine K1 ?_;refine X.pF h1 ?_;refine NS ?_
  refine VS.cond (fun h2=>?_) (fun h2=>?_)
  ·refine SR ?_;refine K2 ?_;refine NU ?_;exact ES.ret R1
  ·refine KR ?_;refine K2 ?_;refine X.idxT (fun h3=>?_);refine K2 ?_;refine NT ?_;exact ES.ret R1
theorem r15_Renamed_ok (x1:AInstr) (to1:List Int):∀r:AInstr,r15_Renamed x1 to1 r→FC 122 [] [.agg ((row_AInstr x1).map .v),.c (.v (.tree (to1.map iRow)))] (.w (.agg ((row_AInstr r).map .v))) [] []:=by
 refine fnS 34 ?_;unfold r15_Renamed;refine SR ?_;refine X.box 0 ?_;refine X.alloc 1 ?_;refine NV ?_;refine K2 ?_;refine X.nil (ES.seq (VS.block (VS.seq (VS.region ?_))));refine K2 ?_;refine NS ?_
 refine VS.cond (fun h1=>?_) (fun h1=>?_)
 ·refine VS.region ?_;refine K3 ?_;refine X.call true [] [] (r15_renamed_ok _ _) (fun x2=>?_);refine K1 ?_;refine X.st ?_;refine X.nil (ES.blkN (ES.seq (VS.seq (VS.region ?_))));refine K1 ?_;refine X.st ?_;refine NT ?_;exact ES.ret (Ret.clo [_] ⟨⟨_,_,_,_,_,_,rfl,rfl,fits rfl,rfl⟩,trivial⟩ trivial)
 ·refine SR ?_;refine K2 ?_;refine NS ?_
  refine VS.cond (fun h2=>?_) (fun h2=>?_)
  ·refine VS.region ?_;refine K3 ?_;refine X.call true [] [] (r15_renamed_ok _ _) (fun x3=>?_);refine K1 ?_;refine X.st ?_;refine X.nil (ES.blkN (ES.seq (VS.seq (VS.region ?_))));refine K1 ?_;refine X.st ?_;refine NT ?_;exact ES.ret (Ret.clo [_] ⟨⟨_,_,_,_,_,_,rfl,rfl,fits rfl,rfl⟩,trivial⟩ trivial)
  ·refine SR ?_;refine K2 ?_;refine NS ?_
   refine VS.cond (fun h3=>?_) (fun h3=>?_)
   ·refine VS.drawn ?_;refine K3 ?_;refine X.call true [] [] (r15_renamed_ok _ _) (fun x4=>?_);refine K3 ?_;refine X.call true [] [] (r15_renamed_ok _ _) (fun x5=>?_);(iterate 2 refine K1 ?_;refine X.st ?_);refine ND ?_;refine ES.blkN (ES.seq (VS.seq (VS.region ?_)));refine K1 ?_;refine X.st ?_;refine NT ?_;exact ES.ret (Ret.clo [_] ⟨⟨_,_,_,_,_,_,rfl,rfl,fits rfl,rfl⟩,trivial⟩ trivial)
   ·refine VS.skip (ES.blkN (ES.seq (VS.seq (VS.region ?_))));refine K1 ?_;refine X.st ?_;refine NT ?_;exact ES.ret (Ret.clo [_] ⟨⟨_,_,_,_,_,_,rfl,rfl,fits rfl,rfl⟩,trivial⟩ trivial)
theorem r21_Used_ok (f1:AFunc) (r1:ARename):∀r:List Int,r21_Used f1 r1 r→FC 118 [] [.agg ((row_AFunc f1).map .v),.agg ((row_ARename r1).map .v)] (.w (.c (.v (.tree (r.map iRow))))) [] []:=by
 refine fnS 52 ?_;unfold r21_Used;refine SR ?_;refine X.box 0 ?_;refine X.box 1 ?_;refine K1 ?_;refine NR ?_;refine K1 ?_;refine NV ?_;refine K1 ?_;refine NO ?_;refine VS.loop (fun jj:List Int × Int=>(⟨[(2,wP 0),(3,wP 1),(5,wT iRow jj.1),(6,wI jj.2)],[some (.bx 60 ((row_AFunc f1).map .v)),some (.bx 120 ((row_ARename r1).map .v))]⟩:St)) (j0:=(([]:List Int),0)) ((St.le_nil _ 5 rfl).trans (LSB rfl rfl rfl rfl)) ?_;rintro n1 again1 ih_again1 ⟨out1,k1⟩;refine SS ?_;refine K3 ?_;refine X.lenT ?_;refine K2 ?_
 refine X.bif (fun h1=>?_) (fun h1=>?_)
 ·(iterate 3 refine X.gY h1 ?_;refine K1 ?_);refine X.gY h1 ?_;refine X.lenT ?_;refine X.gY h1 ?_;refine K1 ?_;refine X.pT h1 ?_;refine NS ?_
  refine VS.cond (fun h2=>?_) (fun h2=>?_)
  ·refine VS.skip (ES.seq (VS.seq (VS.block (VS.seq (VS.seq (VS.region ?_))))));refine K3 ?_;refine X.idxT (fun h3=>?_);refine K2 ?_;refine NS ?_
   refine VS.cond (fun h4=>?_) (fun h4=>?_)
   ·refine VS.exit (ES.thnE (ES.blkE (ES.seq (VS.region ?_))));refine K1 ?_;refine X.ck fun h5=>?_;refine K1 ?_;refine X.nil ?_;exact GL ih_again1
   ·refine VS.skip (ES.seq (VS.seq (VS.drawn ?_)));refine K3 ?_;refine X.idxT (fun h6=>?_);refine K3 ?_;refine X.call true [] [] (r15_Renamed_ok _ _) (fun x1=>?_);refine X.alloc 2 ?_;refine X.st ?_;refine ND ?_;refine ES.seq (VS.seq (VS.region ?_));refine K2 ?_;refine X.call true [] [] (r15_Uses_ok _) (fun x2=>?_);refine X.call true [] [] (r04_Union_ok _ _) (fun x3=>?_);refine K1 ?_;refine NR ?_;refine K1 ?_;refine X.call true [] [] (r15_Defines_ok _) (fun x4=>?_);refine K3 ?_;refine K2 ?_;refine NS ?_;refine VS.weak (s':=(⟨[(2,wP 0),(3,wP 1),(5,wT iRow x3),(6,wI k1),(8,wI x4.1),(9,.w (.c (.v (.bool x4.2)))),(16,wI k1),(17,.w (.c (.ptr 1 0 1))),(18,wT oRow r1.Keep),(19,wI (r1.Keep.length:Int)),(20,.w (.c (.v (.bool (decide (k1<(r1.Keep.length:Int)))))))],[some (.bx 60 ((row_AFunc f1).map .v)),some (.bx 120 ((row_ARename r1).map .v)),some (.bx 62 ((row_AInstr x1).map .v))]⟩:St)) (LSB rfl rfl rfl rfl) ?_
    refine SR ?_;refine K1 ?_;refine NS ?_
    refine VS.cond (fun h7=>?_) (fun h7=>?_)
    ·refine VS.region ?_;refine K2 ?_;refine X.call true [] [] (r04_Add_ok _ _) (fun x5=>?_);refine K1 ?_;refine NB ?_;refine K1 ?_;refine X.ck fun h8=>?_;refine K1 ?_;refine X.nil ?_;exact GL ih_again1
    ·refine KB ?_;refine K1 ?_;refine X.ck fun h9=>?_;refine K1 ?_;refine X.nil ?_;exact GL ih_again1
  ·refine XE ?_;refine K2 ?_;refine NT ?_;exact ES.ret R1
 ·(iterate 5 refine X.gN h1 ?_);refine X.pF h1 ?_;refine NS ?_;refine VS.condF rfl ?_;refine XE ?_;refine K2 ?_;refine NT ?_;exact ES.ret R1
theorem r21_numbers_ok (r1:ARename) (used1:List Int):∀r:List Int,r21_numbers r1 used1 r→FC 120 [] [.agg ((row_ARename r1).map .v),.c (.v (.tree (used1.map iRow)))] (.w (.c (.v (.tree (r.map iRow))))) [] []:=by
 refine fnS 38 ?_;unfold r21_numbers;refine SR ?_;refine X.box 0 ?_;refine K1 ?_;refine NR ?_;refine K1 ?_;refine NV ?_;refine K1 ?_;refine NO ?_;refine VS.loop (fun jj:Int × List Int=>(⟨[(1,wT iRow used1),(2,wP 0),(5,wM 1),(6,wI jj.1)],[some (.bx 120 ((row_ARename r1).map .v)),some (.sl 3 1 false (jj.2.map iRow))]⟩:St)) (j0:=(0,([]:List Int))) ((St.le_keep _ [1,2,5,6]).trans ((St.le_adopt _ 5 1 3 1 rfl rfl).trans (LSB rfl rfl rfl rfl))) ?_;rintro n1 again1 ih_again1 ⟨s1,out1⟩;refine SS ?_;refine K3 ?_;refine X.lenT ?_;refine K1 ?_;refine NS ?_
 refine VS.cond (fun h1=>?_) (fun h1=>?_)
 ·refine KW ?_;refine K1 ?_;refine NV ?_;refine K1 ?_;refine NO ?_;refine VS.loop (fun jj:Int × Int=>(⟨[(1,wT iRow used1),(2,wP 0),(5,wM 1),(6,wI s1),(7,wI jj.1),(8,wI jj.2)],[some (.bx 120 ((row_ARename r1).map .v)),some (.sl 3 1 false (out1.map iRow))]⟩:St)) (j0:=(0,0)) (LSB rfl rfl rfl rfl) ?_;rintro n3 again2 ih_again2 ⟨n2,i1⟩;refine SS ?_;refine K2 ?_;refine X.lenT ?_;refine K1 ?_;refine NS ?_
  refine VS.cond (fun h2=>?_) (fun h2=>?_)
  ·refine VS.skip (ES.seq (VS.seq (VS.block (VS.seq (VS.drawn ?_)))));refine K2 ?_;refine X.idxT (fun h3=>?_);refine K3 ?_;refine K1 ?_;refine X.idxT (fun h4=>?_);refine K2 ?_;refine ND ?_;refine ES.seq ?_
   refine VS.cond (fun h5=>?_) (fun h5=>?_)
   ·refine VS.region ?_;refine K2 ?_;refine NB ?_;refine K1 ?_;refine X.ck fun h6=>?_;refine K1 ?_;refine X.nil ?_;exact GL ih_again2
   ·refine KB ?_;refine K1 ?_;refine X.ck fun h7=>?_;refine K1 ?_;refine X.nil ?_;exact GL ih_again2
  ·refine VS.exit (ES.thnE (ES.thnE (ES.blkE (ES.seq (VS.region ?_)))));refine K2 ?_;refine X.bs 2 ([n2]:List Int) iRow ?_;refine X.appMM 3 (l:=out1) (l':=([n2]:List Int)) (fun h8=>?_);refine K1 ?_;refine NB ?_;refine K1 ?_;refine X.ck fun h9=>?_;refine K1 ?_;refine X.nil ?_;exact ES.go ih_again1 _ ((St.le_mvB _ 3 1 rfl rfl rfl rfl).trans (LSB rfl rfl rfl rfl))
 ·refine XE ?_;refine K2 ?_;refine NT ?_;exact ES.ret (Ret.weak (St.le_tree _ 4 1 rfl rfl) (Ret.clo [.c (aT iRow out1)] ⟨rfl,trivial⟩ trivial))
theorem r21_Places_ok (r1:ARename):∀r:List Int,r21_Places r1 r→FC 121 [] [.agg ((row_ARename r1).map .v)] (.w (.c (.v (.tree (r.map iRow))))) [] []:=by
 refine fnS 25 ?_;unfold r21_Places;refine SR ?_;refine X.box 0 ?_;(iterate 2 refine K1 ?_;refine NR ?_);refine K1 ?_;refine NV ?_;refine K1 ?_;refine NO ?_;refine VS.loop (fun jj:Int × Int × List Int=>(⟨[(1,wP 0),(3,wM 1),(4,wI jj.1),(5,wI jj.2.1)],[some (.bx 120 ((row_ARename r1).map .v)),some (.sl 3 1 false (jj.2.2.map iRow))]⟩:St)) (j0:=(0,0,([]:List Int))) ((St.le_keep _ [1,3,4,5]).trans ((St.le_adopt _ 3 1 3 1 rfl rfl).trans (LSB rfl rfl rfl rfl))) ?_;rintro n2 again1 ih_again1 ⟨n1,k1,out1⟩;refine SS ?_;refine K3 ?_;refine X.lenT ?_;refine K1 ?_;refine NS ?_
 refine VS.cond (fun h1=>?_) (fun h1=>?_)
 ·refine KW ?_;refine K2 ?_;refine X.bs 2 ([n1]:List Int) iRow ?_;refine X.appMM 3 (l:=out1) (l':=([n1]:List Int)) (fun h2=>?_);refine K1 ?_;refine NR ?_;refine K3 ?_;refine X.idxT (fun h3=>?_);refine K1 ?_;refine NS ?_
  refine VS.cond (fun h4=>?_) (fun h4=>?_)
  ·refine VS.region ?_;refine K1 ?_;refine X.ck fun h5=>?_;refine K1 ?_;refine NB ?_;refine K1 ?_;refine X.ck fun h6=>?_;refine K1 ?_;refine X.nil ?_;exact ES.go ih_again1 _ ((St.le_mvB _ 3 1 rfl rfl rfl rfl).trans (LSB rfl rfl rfl rfl))
  ·refine KB ?_;refine K1 ?_;refine X.ck fun h7=>?_;refine K1 ?_;refine X.nil ?_;exact ES.go ih_again1 _ ((St.le_mvB _ 3 1 rfl rfl rfl rfl).trans (LSB rfl rfl rfl rfl))
 ·refine XE ?_;refine K2 ?_;refine NT ?_;exact ES.ret (Ret.weak (St.le_tree _ 2 1 rfl rfl) (Ret.clo [.c (aT iRow out1)] ⟨rfl,trivial⟩ trivial))
theorem r21_Apply_ok (f1:AFunc) (r1:ARename):∀r:AFunc × Int,r21_Apply f1 r1 r→FC 80 [] [.agg ((row_AFunc f1).map .v),.agg ((row_ARename r1).map .v)] (.tup [.agg ((row_AFunc r.1).map .v),cI r.2]) [] []:=by
 refine fnS 132 ?_;unfold r21_Apply;refine SR ?_;refine X.box 0 ?_;refine X.box 1 ?_;refine X.alloc 2 ?_;refine K1 ?_;refine NV ?_;refine K2 ?_;refine X.call true [] [] (r21_Check_ok _ _) (fun x1=>?_);refine K1 ?_;refine NR ?_;refine K2 ?_;refine NS ?_
 refine VS.cond (fun h1=>?_) (fun h1=>?_)
 ·refine SR ?_;refine X.build ?_;refine K1 ?_;refine X.st ?_;refine K1 ?_;refine NU ?_;exact ES.ret (Ret.clo [_,_] ⟨⟨_,_,_,_,_,_,rfl,rfl,fits rfl,rfl⟩,rfl,trivial⟩ trivial)
 ·refine KR ?_;refine K2 ?_;refine X.call true [] [] (r21_Used_ok _ _) (fun x2=>?_);refine K1 ?_;refine NR ?_;refine K2 ?_;refine X.build ?_;refine X.alloc 3 ?_;refine X.st ?_;refine NV ?_;refine K1 ?_;refine NO ?_;refine VS.loop (fun jj:Int × List ASlot=>(⟨[(2,wP 0),(3,wP 1),(4,wP 2),(7,wT iRow x2),(8,wP 3),(9,wI jj.1)],[some (.bx 60 ((row_AFunc f1).map .v)),some (.bx 120 ((row_ARename r1).map .v)),some (.bx 60 [aI 0,aT row_ASlot ([]:List ASlot),aT row_AInstr ([]:List AInstr)]),some (.bx 60 [aI f1.Params,aT row_ASlot jj.2,aT row_AInstr ([]:List AInstr)])]⟩:St)) (j0:=(0,([]:List ASlot))) (LSB rfl rfl rfl rfl) ?_;rintro n1 again1 ih_again1 ⟨i1,Slots1⟩;refine SS ?_;refine K2 ?_;refine X.lenT ?_;refine K1 ?_;refine NS ?_
  refine VS.cond (fun h2=>?_) (fun h2=>?_)
  ·refine VS.skip (ES.seq (VS.seq (VS.block (VS.seq (VS.drawn ?_)))));refine K3 ?_;refine K1 ?_;refine X.idxT (fun h3=>?_);refine K1 ?_;refine X.idxT (fun h4=>?_);refine K1 ?_;refine X.alloc 4 ?_;refine X.st ?_;refine ND ?_;refine ES.seq (VS.seq (VS.drawn ?_));refine K3 ?_;refine K1 ?_;refine X.idxT (fun h5=>?_);refine K1 ?_;refine X.call true [] [] (r19_Members_ok _ _) (fun x3=>?_);refine K1 ?_;refine ND ?_;refine ES.seq (VS.seq (VS.seq (VS.region ?_)));refine K1 ?_;refine NO ?_;refine VS.loop (fun jj:Int × ASlot=>(⟨[(2,wP 0),(3,wP 1),(4,wP 2),(7,wT iRow x2),(8,wP 3),(9,wI i1),(10,wP 4),(11,wT iRow x3),(12,wI jj.1)],[some (.bx 60 ((row_AFunc f1).map .v)),some (.bx 120 ((row_ARename r1).map .v)),some (.bx 60 [aI 0,aT row_ASlot ([]:List ASlot),aT row_AInstr ([]:List AInstr)]),some (.bx 60 [aI f1.Params,aT row_ASlot Slots1,aT row_AInstr ([]:List AInstr)]),some (.bx 56 ((row_ASlot jj.2).map .v))]⟩:St)) (j0:=(0,(atD f1.Slots (atD x2 i1)))) (LSB rfl rfl rfl rfl) ?_
   rintro n2 again2 ih_again2 ⟨k1,s1⟩;refine SS ?_;refine K2 ?_;refine X.lenT ?_;refine K1 ?_;refine NS ?_
   refine VS.cond (fun h6=>?_) (fun h6=>?_)
   ·refine VS.skip (ES.seq (VS.seq (VS.block (VS.drawn ?_))));refine K3 ?_;refine K3 ?_;refine X.idxT (fun h7=>?_);refine K1 ?_;refine X.idxT (fun h8=>?_);refine K2 ?_;refine X.max ?_;refine K1 ?_;refine X.st ?_;refine ND ?_;refine ES.blkN (ES.seq (VS.region ?_));refine K1 ?_;refine X.ck fun h9=>?_;refine K1 ?_;refine X.nil ?_;exact GL ih_again2
   ·refine VS.exit (ES.thnE (ES.thnE (ES.blkE (ES.seq (VS.seq (VS.drawn ?_))))));refine K2 ?_;refine X.appNT 5 (l':=Slots1) (fun h10=>?_);refine K1 ?_;refine X.bs 6 ([s1]:List ASlot) row_ASlot ?_;refine X.appMM 7 (l:=Slots1) (l':=([s1]:List ASlot)) (fun h11=>?_);refine K1 ?_;refine ND ?_;refine EG ?_;refine K2 ?_;refine X.st ?_;refine NB ?_;refine K1 ?_;refine X.ck fun h12=>?_;refine K1 ?_;refine X.nil ?_;exact ES.go ih_again1 _ ((St.le_tcell _ 3 1 7 rfl rfl rfl rfl).trans (LSB rfl rfl rfl rfl))
  ·refine VS.exit (ES.thnE (ES.thnE (ES.blkE (ES.seq (VS.seq (VS.drawn ?_))))));refine K2 ?_;refine X.call true [] [] (r21_numbers_ok _ _) (fun x4=>?_);refine K1 ?_;refine X.call true [] [] (r21_Places_ok _) (fun x5=>?_);refine K2 ?_;refine ND ?_;refine ES.seq (VS.seq (VS.seq (VS.region ?_)));refine K1 ?_;refine NO ?_;refine VS.loop (fun jj:Int × List AInstr=>(⟨[(2,wP 0),(3,wP 1),(4,wP 2),(8,wP 3),(14,wT iRow x4),(15,wT iRow x5),(16,wI jj.1)],[some (.bx 60 ((row_AFunc f1).map .v)),some (.bx 120 ((row_ARename r1).map .v)),some (.bx 60 [aI 0,aT row_ASlot ([]:List ASlot),aT row_AInstr ([]:List AInstr)]),some (.bx 60 [aI f1.Params,aT row_ASlot Slots1,aT row_AInstr jj.2])]⟩:St)) (j0:=(0,([]:List AInstr))) (LSB rfl rfl rfl rfl) ?_;rintro n3 again3 ih_again3 ⟨k2,Code1⟩;refine SS ?_;refine K3 ?_;refine X.lenT ?_
   refine K1 ?_;refine NS ?_
   refine VS.cond (fun h13=>?_) (fun h13=>?_)
   ·refine VS.skip (ES.seq (VS.seq (VS.block (VS.seq (VS.seq (VS.region ?_))))));refine K3 ?_;refine X.idxT (fun h14=>?_);refine K2 ?_;refine NS ?_
    refine VS.cond (fun h15=>?_) (fun h15=>?_)
    ·refine VS.exit (ES.thnE (ES.blkE (ES.seq (VS.region ?_))));refine K1 ?_;refine X.ck fun h16=>?_;refine K1 ?_;refine X.nil ?_;exact GL ih_again3
    ·refine KR ?_;refine K3 ?_;refine X.idxT (fun h17=>?_);refine K2 ?_;refine X.call true [] [] (r15_Renamed_ok _ _) (fun x6=>?_);refine X.alloc 4 ?_;refine X.st ?_;refine NS ?_
     refine VS.join (fun (x7:AInstr)=>(⟨[(2,wP 0),(3,wP 1),(4,wP 2),(8,wP 3),(14,wT iRow x4),(15,wT iRow x5),(16,wI k2),(17,wP 4)],[some (.bx 60 ((row_AFunc f1).map .v)),some (.bx 120 ((row_ARename r1).map .v)),some (.bx 60 [aI 0,aT row_ASlot ([]:List ASlot),aT row_AInstr ([]:List AInstr)]),some (.bx 60 [aI f1.Params,aT row_ASlot Slots1,aT row_AInstr Code1]),some (.bx 62 ((row_AInstr x7).map .v))]⟩:St)) ?_ ?_
     ·rintro x7;refine VS.seq (VS.drawn ?_);refine K2 ?_;refine X.appNT 5 (l':=Code1) (fun h18=>?_);refine K1 ?_;refine X.bs 6 ([x7]:List AInstr) row_AInstr ?_;refine X.appMM 7 (l:=Code1) (l':=([x7]:List AInstr)) (fun h19=>?_);refine K1 ?_;refine ND ?_;refine EG ?_;refine K2 ?_;refine X.st ?_;refine NB ?_;refine K1 ?_;refine X.ck fun h20=>?_;refine K1 ?_;refine X.nil ?_;exact ES.go ih_again3 _ ((St.le_tcell _ 3 2 7 rfl rfl rfl rfl).trans (LSB rfl rfl rfl rfl))
     ·intro k3 ih_k3;refine SR ?_;refine K2 ?_;refine X.nil (ES.seq (VS.block (VS.seq (VS.region ?_))));refine K2 ?_;refine NS ?_
      refine VS.cond (fun h21=>?_) (fun h21=>?_)
      ·refine VS.region ?_;refine K3 ?_;refine X.idxT (fun h22=>?_);refine K2 ?_;refine X.st ?_;refine X.nil (ES.blkN ?_);exact JL ih_k3
      ·refine SR ?_;refine K2 ?_;refine NS ?_
       refine VS.cond (fun h23=>?_) (fun h23=>?_)
       ·refine VS.region ?_;refine K3 ?_;refine X.idxT (fun h24=>?_);refine K2 ?_;refine X.st ?_;refine X.nil (ES.blkN ?_);exact JL ih_k3
       ·refine VS.skip (ES.blkN ?_);exact JL ih_k3
   ·refine XE ?_;refine K1 ?_;refine X.st ?_;refine K1 ?_;refine NT ?_;exact ES.ret (Ret.clo [_,_] ⟨⟨_,_,_,_,_,_,rfl,rfl,fits rfl,rfl⟩,rfl,trivial⟩ trivial)
theorem r18_Strict_ok (f1:AFunc) (l1:ALive):∀r:List (List Int) × Int,r18_Strict f1 l1 r→FC 81 [] [.agg ((row_AFunc f1).map .v),.agg ((row_ALive l1).map .v)] (.tup [.c (.v (.tree (r.1.map (sR iRow)))),cI r.2]) [] []:=by
 refine fnS 11 ?_;unfold r18_Strict;refine SR ?_;refine X.box 0 ?_;refine X.box 1 ?_;refine K2 ?_;refine NR ?_;refine K2 ?_;refine X.call true [] [] (r18_graph_ok _ _ _) (fun x1=>?_);refine K3 ?_;refine K1 ?_;refine NT ?_;exact ES.ret (Ret.clo [_,_] ⟨rfl,rfl,trivial⟩ trivial)
end Go.Proofs.YtgbkhjllbgmdcaaGreat.Q
