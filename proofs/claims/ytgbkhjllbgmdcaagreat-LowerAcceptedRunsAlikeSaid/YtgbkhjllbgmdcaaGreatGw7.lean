/- Walks of functions: the code does what the lifted text says (written by a program). -/
import Derived.Test.YtgbkhjllbgmdcaaGreatLR
import Derived.Test.YtgbkhjllbgmdcaaGreatGw6
set_option linter.unusedVariables false
set_option linter.unusedSimpArgs false
set_option maxRecDepth 8000
namespace Go.Proofs.YtgbkhjllbgmdcaaGreat.Q
open Go.RowKit
set_option maxHeartbeats 4000000
theorem draw_Layout_ok (c1:DCodes) (p1:AProgram) (i1:Int) (align1:Int):∀r:ALayout × DCodes,draw_Layout c1 p1 i1 align1 r→FC 27 [(68,row_DCodes c1)] [.c (.ptr 0 0 0),.agg ((row_AProgram p1).map .v),cI i1,cI align1] (.w (.agg ((row_ALayout r.1).map .v))) [] [(68,row_DCodes r.2)]:=by
 refine fnS 147 ?_;unfold draw_Layout;refine SR ?_;refine X.box 1 ?_;refine X.alloc 2 ?_;refine NR ?_;refine K3 ?_;refine X.call true [] [] (r24_Baseline_ok _ _ _) (fun x1=>?_);refine K3 ?_;refine X.alloc 3 ?_;refine X.st ?_;refine K1 ?_;refine NS ?_
 refine VS.join (fun jj:DCodes × ALayout=>(⟨[(0,wP 0),(8,wP 1),(9,wP 2)],[some (.bx 68 ((row_DCodes jj.1).map .v)),some (.bx 66 [aI 0,aI 0,aT iRow ([]:List Int)]),some (.bx 66 ((row_ALayout jj.2).map .v))]⟩:St)) ?_ ?_
 ·rintro ⟨c2,y1⟩;refine SR ?_;refine K2 ?_;refine X.appNT 3 (l':=y1.Off) (fun h1=>?_);refine K1 ?_;refine X.st ?_;refine NV ?_;refine K1 ?_;refine X.call true [] [0] (draw_Next_ok _ _) (fun x2=>?_);refine K1 ?_;refine NO ?_;refine VS.loop (fun jj:Int × DCodes × Int × Int × List Int=>(⟨[(0,wP 0),(8,wP 1),(9,wP 2),(12,wI jj.1)],[some (.bx 68 ((row_DCodes jj.2.1).map .v)),some (.bx 66 [aI 0,aI 0,aT iRow ([]:List Int)]),some (.bx 66 [aI jj.2.2.1,aI jj.2.2.2.1,.mref 3]),some (.sl 3 1 false (jj.2.2.2.2.map iRow))]⟩:St)) (j0:=(x2.1,x2.2,y1.Args,y1.Size,y1.Off)) (LSB rfl rfl rfl rfl) ?_;rintro n2 again1 ih_again1 ⟨n1,c3,Args1,Size1,own1⟩;refine SS ?_;refine K2 ?_;refine NS ?_
  refine VS.cond (fun h2=>?_) (fun h2=>?_)
  ·refine KS ?_
   refine VS.join (fun jj:DCodes × Int × Int × List Int=>(⟨[(0,wP 0),(8,wP 1),(9,wP 2),(12,wI n1)],[some (.bx 68 ((row_DCodes jj.1).map .v)),some (.bx 66 [aI 0,aI 0,aT iRow ([]:List Int)]),some (.bx 66 [aI jj.2.1,aI jj.2.2.1,.mref 3]),some (.sl 3 1 false (jj.2.2.2.map iRow))]⟩:St)) ?_ ?_
   ·rintro ⟨c4,Args2,Size2,own2⟩;refine VS.region ?_;refine K1 ?_;refine X.ck fun h3=>?_;refine K1 ?_;refine X.nil ?_;exact GL ih_again1
   ·intro k2 ih_k2;refine VS.block (VS.seq (VS.region ?_));refine K3 ?_;refine X.lenM (l:=own1) ?_;refine X.max ?_;refine X.call true [] [0] (draw_Next_ok _ _) (fun x3=>?_);refine K1 ?_;refine NR ?_;refine K1 ?_;refine X.call true [] [0] (draw_Next_ok _ _) (fun x4=>?_);refine NO ?_
    refine VS.join (fun (x5:Bool)=>(⟨[(0,wP 0),(8,wP 1),(9,wP 2),(12,wI n1),(13,wI x3.1),(54,wI x4.1),(55,.w (.c (.v (.bool x5))))],[some (.bx 68 ((row_DCodes x4.2).map .v)),some (.bx 66 [aI 0,aI 0,aT iRow ([]:List Int)]),some (.bx 66 [aI Args1,aI Size1,.mref 3]),some (.sl 3 1 false (own1.map iRow))]⟩:St)) ?_ ?_
    ·rintro x5
     refine VS.cond (fun h4=>?_) (fun h4=>?_)
     ·refine SR ?_;refine K3 ?_;refine X.lenM (l:=own1) ?_;refine K1 ?_;refine NS ?_
      refine VS.cond (fun h5=>?_) (fun h5=>?_)
      ·refine VS.drawn ?_;refine K3 ?_;refine K3 ?_;refine X.call true [] [0] (draw_Next_ok _ _) (fun x6=>?_);refine X.ck fun h6=>?_;refine X.addW ?_;refine X.idxM (l:=own1) (i:=x3.1) (fun h7=>?_);refine X.set (i:=x3.1) (IntKind.i64.wrap (Args1+((8:Int)*x6.1))) h7 ?_;refine ND ?_;refine ES.blkN (ES.blkN ?_);exact JL ih_k2
      ·refine VS.skip (ES.blkN (ES.blkN ?_));exact JL ih_k2
     ·refine VS.join (fun (x7:Bool)=>(⟨[(0,wP 0),(8,wP 1),(9,wP 2),(12,wI n1),(13,wI x3.1),(54,wI x4.1),(74,.w (.c (.v (.bool x7))))],[some (.bx 68 ((row_DCodes x4.2).map .v)),some (.bx 66 [aI 0,aI 0,aT iRow ([]:List Int)]),some (.bx 66 [aI Args1,aI Size1,.mref 3]),some (.sl 3 1 false (own1.map iRow))]⟩:St)) ?_ ?_
      ·rintro x7
       refine VS.cond (fun h8=>?_) (fun h8=>?_)
       ·refine SR ?_;refine K3 ?_;refine X.lenM (l:=own1) ?_;refine K1 ?_;refine NS ?_
        refine VS.cond (fun h9=>?_) (fun h9=>?_)
        ·refine VS.drawn ?_;refine K3 ?_;refine K3 ?_;refine K2 ?_;refine X.lenM (l:=own1) ?_;refine X.call true [] [0] (draw_Next_ok _ _) (fun x8=>?_);refine X.idxM (l:=own1) (i:=x8.1) (fun h10=>?_);refine X.ld (i:=x8.1) h10 ?_;refine X.idxM (l:=own1) (i:=x3.1) (fun h11=>?_);refine X.set (i:=x3.1) (atD own1 x8.1) h11 ?_;refine ND ?_;refine ES.blkN (ES.blkN ?_);exact JL ih_k2
        ·refine VS.skip (ES.blkN (ES.blkN ?_));exact JL ih_k2
       ·refine SR ?_;refine K2 ?_;refine NS ?_
        refine VS.cond (fun h12=>?_) (fun h12=>?_)
        ·refine VS.drawn ?_;refine K3 ?_;refine X.call true [] [0] (draw_Next_ok _ _) (fun x9=>?_);refine X.ck fun h13=>?_;refine X.ck fun h14=>?_;refine X.addW ?_;refine K1 ?_;refine X.st ?_;refine ND ?_;refine ES.blkN (ES.blkN ?_);exact JL ih_k2
        ·refine SR ?_;refine K2 ?_;refine NS ?_
         refine VS.cond (fun h15=>?_) (fun h15=>?_)
         ·refine SR ?_;refine K3 ?_;refine X.lenM (l:=own1) ?_;refine K2 ?_
          refine X.bif (fun h16=>?_) (fun h16=>?_)
          ·refine X.gY h16 ?_;refine K1 ?_;refine X.gY h16 ?_;refine X.call true [] [0] (draw_Next_ok _ _) (fun x10=>?_);refine X.gY h16 ?_;refine K1 ?_;refine X.pT h16 ?_;refine NS ?_
           refine VS.cond (fun h17=>?_) (fun h17=>?_)
           ·refine VS.drawn ?_;refine K3 ?_;refine K1 ?_;refine X.call true [] [0] (draw_Int_ok _) (fun x11=>?_);refine X.idxM (l:=own1) (i:=x3.1) (fun h18=>?_);refine X.set (i:=x3.1) x11.1 h18 ?_;refine ND ?_;refine ES.blkN (ES.blkN ?_);exact JL ih_k2
           ·refine VS.skip (ES.blkN (ES.blkN ?_));exact JL ih_k2
          ·(iterate 3 refine X.gN h16 ?_);refine X.pF h16 ?_;refine NS ?_;refine VS.condF rfl ?_;refine VS.skip (ES.blkN (ES.blkN ?_));exact JL ih_k2
         ·refine SR ?_;refine K2 ?_;refine NS ?_
          refine VS.cond (fun h19=>?_) (fun h19=>?_)
          ·refine SR ?_;refine K1 ?_;refine X.call true [] [0] (draw_Next_ok _ _) (fun x12=>?_);refine X.nil (ES.seq (VS.block (VS.seq (VS.region ?_))));refine K2 ?_;refine NS ?_
           refine VS.cond (fun h20=>?_) (fun h20=>?_)
           ·refine VS.region ?_;refine K1 ?_;refine X.call true [] [0] (draw_Int_ok _) (fun x13=>?_);refine K1 ?_;refine X.st ?_;refine X.nil (ES.blkN (ES.blkN (ES.blkN ?_)));exact JL ih_k2
           ·refine SR ?_;refine K2 ?_;refine NS ?_
            refine VS.cond (fun h21=>?_) (fun h21=>?_)
            ·refine VS.region ?_;refine K1 ?_;refine X.call true [] [0] (draw_Int_ok _) (fun x14=>?_);refine K1 ?_;refine X.st ?_;refine X.nil (ES.blkN (ES.blkN (ES.blkN ?_)));exact JL ih_k2
            ·refine SR ?_;refine K2 ?_;refine NS ?_
             refine VS.cond (fun h22=>?_) (fun h22=>?_)
             ·refine VS.drawn ?_;refine K3 ?_;refine X.call true [] [0] (draw_Next_ok _ _) (fun x15=>?_);refine X.bs 4 ([x15.1]:List Int) iRow ?_;refine X.appMM 5 (l:=own1) (l':=([x15.1]:List Int)) (fun h23=>?_);refine K1 ?_;refine X.st ?_;refine ND ?_;refine ES.blkN (ES.blkN (ES.blkN ?_));exact ES.jn ih_k2 _ ((St.le_mvB _ 5 3 rfl rfl rfl rfl).trans (LSB rfl rfl rfl rfl))
             ·refine VS.skip (ES.blkN (ES.blkN (ES.blkN ?_)));exact JL ih_k2
          ·refine VS.skip (ES.blkN (ES.blkN ?_));exact JL ih_k2
      ·intro k4 ih_k4;refine SR ?_;refine K2 ?_;refine NS ?_
       refine VS.cond (fun h24=>?_) (fun h24=>?_)
       ·refine VS.skip ?_;exact JL ih_k4
       ·refine VS.region ?_;refine K2 ?_;refine X.nil ?_;exact JL ih_k4
    ·intro k3 ih_k3;refine SR ?_;refine K2 ?_;refine NS ?_
     refine VS.cond (fun h25=>?_) (fun h25=>?_)
     ·refine VS.skip ?_;exact JL ih_k3
     ·refine SR ?_;refine K2 ?_;refine NS ?_
      refine VS.cond (fun h26=>?_) (fun h26=>?_)
      ·refine VS.skip ?_;exact JL ih_k3
      ·refine VS.region ?_;refine K2 ?_;refine X.nil ?_;exact JL ih_k3
  ·refine XE ?_;refine K1 ?_;refine X.st ?_;refine NT ?_;exact ES.ret (Ret.weak (St.le_tcell _ 1 2 3 rfl rfl rfl rfl) (Ret.clo [.agg ((row_ALayout (⟨Args1,Size1,own1⟩:ALayout)).map .v)] ⟨⟨_,_,_,_,_,_,rfl,rfl,fits rfl,rfl⟩,trivial⟩ ⟨rfl,trivial⟩))
 ·intro k1 ih_k1;refine SR ?_;refine K1 ?_;refine X.call true [] [0] (draw_Next_ok _ _) (fun x16=>?_);refine K1 ?_;refine NS ?_
  refine VS.cond (fun h27=>?_) (fun h27=>?_)
  ·refine SR ?_;refine K2 ?_;refine X.call true [] [] (r31_Propose_ok _ _) (fun x17=>?_);refine X.alloc 4 ?_;refine X.st ?_;refine NR ?_;refine K3 ?_;refine X.lenT ?_;refine K2 ?_;refine X.lenT ?_;refine K1 ?_;refine NS ?_
   refine VS.cond (fun h28=>?_) (fun h28=>?_)
   ·refine VS.region ?_;refine K2 ?_;refine X.st ?_;refine X.nil ?_;exact ES.jn ih_k1 _ ((St.le_drop _ 1 (Nat.le_of_ble_eq_true rfl)).trans ((St.le_mvB _ 2 1 rfl rfl rfl rfl).trans ((St.le_mvB _ 3 2 rfl rfl rfl rfl).trans (LSB rfl rfl rfl rfl))))
   ·refine VS.skip ?_;exact ES.jn ih_k1 _ ((St.le_drop _ 1 (Nat.le_of_ble_eq_true rfl)).trans ((St.le_mvB _ 2 1 rfl rfl rfl rfl).trans ((St.le_mvB _ 3 2 rfl rfl rfl rfl).trans (LSB rfl rfl rfl rfl))))
  ·refine VS.skip ?_;exact ES.jn ih_k1 _ ((St.le_drop _ 1 (Nat.le_of_ble_eq_true rfl)).trans ((St.le_mvB _ 2 1 rfl rfl rfl rfl).trans ((St.le_mvB _ 3 2 rfl rfl rfl rfl).trans (LSB rfl rfl rfl rfl))))
theorem draw_Lives_ok (c1:DCodes) (f1:AFunc):∀r:ALive × DCodes,draw_Lives c1 f1 r→FC 29 [(68,row_DCodes c1)] [.c (.ptr 0 0 0),.agg ((row_AFunc f1).map .v)] (.w (.agg ((row_ALive r.1).map .v))) [] [(68,row_DCodes r.2)]:=by
 refine fnS 52 ?_;unfold draw_Lives;refine SR ?_;refine X.box 1 ?_;refine X.alloc 2 ?_;refine NR ?_;refine K1 ?_;refine X.call true [] [] (r16_Solve_ok _) (fun x1=>?_);refine X.alloc 3 ?_;refine X.st ?_;refine NR ?_;refine K2 ?_;refine X.appNT 4 (l':=x1.Out) (fun h1=>?_);refine X.build ?_;refine X.alloc 5 ?_;refine X.st ?_;refine NV ?_;refine K1 ?_;refine X.call true [] [0] (draw_Next_ok _ _) (fun x2=>?_);refine K1 ?_;refine NO ?_;refine VS.loop (fun jj:Int × DCodes × List (List Int)=>(⟨[(0,wP 0),(3,wP 1),(4,wP 2),(6,wP 3),(7,wI jj.1)],[some (.bx 68 ((row_DCodes jj.2.1).map .v)),some (.bx 60 ((row_AFunc f1).map .v)),some (.bx 87 [aT (sR iRow) ([]:List (List Int))]),some (.bx 87 [.mref 4]),some (.sl 64 1 false (jj.2.2.map (sR iRow)))]⟩:St)) (j0:=(x2.1,x2.2,x1.Out)) ((St.le_drop _ 3 (Nat.le_of_ble_eq_true rfl)).trans ((St.le_mvB _ 5 3 rfl rfl rfl rfl).trans (LSB rfl rfl rfl rfl))) ?_
 rintro n2 again1 ih_again1 ⟨n1,c2,own1⟩;refine SS ?_;refine K3 ?_
 refine X.bif (fun h2=>?_) (fun h2=>?_)
 ·(iterate 2 refine X.gY h2 ?_;refine K1 ?_);refine X.gY h2 ?_;refine X.lenT ?_;refine X.gY h2 ?_;refine K1 ?_;refine X.pT h2 ?_;refine NS ?_
  refine VS.cond (fun h3=>?_) (fun h3=>?_)
  ·refine KW ?_;refine K3 ?_;refine X.lenT ?_;refine X.call true [] [0] (draw_Next_ok _ _) (fun x3=>?_);refine K1 ?_;refine NR ?_;refine K1 ?_;refine NO ?_;refine VS.loop (fun jj:Int × List (List Int)=>(⟨[(0,wP 0),(3,wP 1),(4,wP 2),(6,wP 3),(7,wI n1),(8,wI x3.1),(9,wI jj.1),(21,.w (.c (.ptr 1 0 1))),(22,wT row_ASlot f1.Slots),(23,wI (f1.Slots.length:Int)),(24,.w (.c (.v (.bool (decide (0<(f1.Slots.length:Int)))))))],[some (.bx 68 ((row_DCodes x3.2).map .v)),some (.bx 60 ((row_AFunc f1).map .v)),some (.bx 87 [aT (sR iRow) ([]:List (List Int))]),some (.bx 87 [.mref 4]),some (.sl 64 1 false (jj.2.map (sR iRow)))]⟩:St)) (j0:=(0,own1)) (LSB rfl rfl rfl rfl) ?_;rintro n3 again2 ih_again2 ⟨k1,own2⟩;refine SS ?_;refine K1 ?_
   refine K2 ?_;refine X.lenM (l:=own2) ?_;refine K1 ?_;refine NS ?_
   refine VS.cond (fun h4=>?_) (fun h4=>?_)
   ·refine VS.skip (ES.seq (VS.seq (VS.block (VS.drawn ?_))));refine K3 ?_;refine K3 ?_;refine X.idxM (l:=own2) (i:=k1) (fun h5=>?_);refine X.ld (i:=k1) h5 ?_;refine K1 ?_;refine X.call true [] [] (r04_Add_ok _ _) (fun x4=>?_);refine X.idxM (l:=own2) (i:=k1) (fun h6=>?_);refine X.set (i:=k1) x4 h6 ?_;refine ND ?_;refine ES.blkN (ES.seq (VS.region ?_));refine K1 ?_;refine X.ck fun h7=>?_;refine K1 ?_;refine X.nil ?_;exact GL ih_again2
   ·refine VS.exit (ES.thnE (ES.thnE (ES.blkE (ES.blkN (ES.seq (VS.region ?_))))));refine K1 ?_;refine X.ck fun h8=>?_;refine K1 ?_;refine X.nil ?_;exact GL ih_again1
  ·refine XE ?_;refine K1 ?_;refine X.st ?_;refine NT ?_;exact ES.ret (Ret.weak (St.le_tcell _ 2 0 4 rfl rfl rfl rfl) (Ret.clo [.agg ((row_ALive (⟨own1⟩:ALive)).map .v)] ⟨⟨_,_,_,_,_,_,rfl,rfl,fits rfl,rfl⟩,trivial⟩ ⟨rfl,trivial⟩))
 ·(iterate 4 refine X.gN h2 ?_);refine X.pF h2 ?_;refine NS ?_;refine VS.condF rfl ?_;refine XE ?_;refine K1 ?_;refine X.st ?_;refine NT ?_;exact ES.ret (Ret.weak (St.le_tcell _ 2 0 4 rfl rfl rfl rfl) (Ret.clo [.agg ((row_ALive (⟨own1⟩:ALive)).map .v)] ⟨⟨_,_,_,_,_,_,rfl,rfl,fits rfl,rfl⟩,trivial⟩ ⟨rfl,trivial⟩))
theorem r03_Inside_ok (a1:AInterval) (size1:Int):∀r:Bool,r03_Inside a1 size1 r→FC 85 [] [.agg ((row_AInterval a1).map .v),cI size1] (.w (.c (.v (.bool r)))) [] []:=by
 refine fnS 16 ?_;unfold r03_Inside;refine SR ?_;refine X.box 0 ?_;refine K1 ?_;refine NR ?_;refine K1 ?_;refine X.call true [] [] (r03_Right_ok _) (fun x1=>?_);refine K1 ?_
 refine X.bif (fun h1=>?_) (fun h1=>?_)
 ·(iterate 4 refine X.gY h1 ?_;refine K1 ?_);refine X.gY h1 ?_;refine X.ck fun h2=>?_;(iterate 2 refine X.gY h1 ?_;refine K1 ?_);refine X.pT h1 ?_;refine K1 ?_;refine NT ?_;exact ES.ret R1
 ·(iterate 7 refine X.gN h1 ?_);refine X.pF h1 ?_;refine K1 ?_;refine NT ?_;exact ES.ret R1
theorem r25_Shape_ok (p1:AProgram) (i1:Int) (align1:Int) (y1:ALayout):∀r:Int,r25_Shape p1 i1 align1 y1 r→FC 50 [] [.agg ((row_AProgram p1).map .v),cI i1,cI align1,.agg ((row_ALayout y1).map .v)] (.w (cI r)) [] []:=by
 refine fnS 107 ?_;unfold r25_Shape;refine SR ?_;refine X.box 0 ?_;refine X.box 1 ?_;refine K1 ?_;refine NR ?_;refine K3 ?_;refine X.call true [] [] (r24_Baseline_ok _ _ _) (fun x1=>?_);refine K3 ?_;refine X.alloc 2 ?_;refine X.st ?_;refine K1 ?_;refine NV ?_;refine K2 ?_;refine NS ?_
 refine VS.cond (fun h1=>?_) (fun h1=>?_)
 ·refine SR ?_;refine K2 ?_;refine NU ?_;exact ES.ret R1
 ·refine KR ?_;refine K3 ?_;refine X.idxT (fun h2=>?_);refine K3 ?_;refine X.nil (ES.seq (VS.seq (VS.seq (VS.drawn ?_))));refine K3 ?_;refine K1 ?_;refine X.call true [] [] (r24_Args_ok _ _) (fun x2=>?_);refine K2 ?_
  refine X.bif (fun h3=>?_) (fun h3=>?_)
  ·(iterate 6 refine X.gN h3 ?_);refine X.pT h3 ?_;refine ND ?_;refine ES.seq ?_;refine VS.condT rfl ?_;refine SR ?_;refine K1 ?_;refine NU ?_;exact ES.ret R1
  ·(iterate 2 refine X.gY h3 ?_;refine K1 ?_);(iterate 2 refine X.gY h3 ?_;refine X.lenT ?_;refine X.gY h3 ?_;refine K1 ?_);refine X.pF h3 ?_;refine ND ?_;refine ES.seq ?_
   refine VS.cond (fun h4=>?_) (fun h4=>?_)
   ·refine SR ?_;refine K1 ?_;refine NU ?_;exact ES.ret R1
   ·refine VS.skip (ES.seq (VS.seq (VS.seq (VS.region ?_))));refine K1 ?_;refine NO ?_;refine VS.loop (fun (k1:Int)=>(⟨[(2,wI align1),(7,wP 0),(9,wP 1),(11,wT row_ASlot ((atD p1.Funcs i1).Slots)),(12,wI k1)],[some (.bx 66 ((row_ALayout y1).map .v)),some (.bx 66 ((row_ALayout x1.1).map .v))]⟩:St)) (j0:=0) ((St.le_drop _ 0 (Nat.le_of_ble_eq_true rfl)).trans ((St.le_mvB _ 1 0 rfl rfl rfl rfl).trans ((St.le_mvB _ 2 1 rfl rfl rfl rfl).trans (LSB rfl rfl rfl rfl)))) ?_;rintro n1 again1 ih_again1 k1;refine SS ?_;refine K2 ?_;refine X.lenT ?_;refine K1 ?_;refine NS ?_
    refine VS.cond (fun h5=>?_) (fun h5=>?_)
    ·refine VS.skip (ES.seq (VS.seq (VS.block (VS.seq (VS.drawn ?_)))));refine K3 ?_;refine X.idxT (fun h6=>?_);refine K3 ?_;refine K2 ?_
     refine X.bif (fun h7=>?_) (fun h7=>?_)
     ·(iterate 12 refine X.gN h7 ?_);refine X.pT h7 ?_;refine K1 ?_;(iterate 15 refine X.gN rfl ?_);refine X.pT rfl ?_;refine ND ?_;refine ES.seq ?_;refine VS.condT rfl ?_;refine SR ?_;refine K1 ?_;refine X.nil (ES.seq (VS.ret (ES.blkR (ES.thnR (ES.thnR (ES.blkR (ES.thnR ?_)))))));exact ES.ret R1
     ·(iterate 3 refine X.gY h7 ?_;refine K1 ?_);refine X.gY h7 ?_;refine X.idxT (fun h8=>?_);(iterate 3 refine X.gY h7 ?_;refine K1 ?_);refine X.gY h7 ?_;refine X.idxT (fun h9=>?_);(iterate 2 refine X.gY h7 ?_;refine K1 ?_);refine X.gY h7 ?_;refine X.remS fun h10=>?_;refine X.gY h7 ?_;refine K1 ?_;refine X.pF h7 ?_;refine K1 ?_
      refine X.bif (fun h11=>?_) (fun h11=>?_)
      ·(iterate 15 refine X.gN h11 ?_);refine X.pT h11 ?_;refine ND ?_;refine ES.seq ?_;refine VS.condT rfl ?_;refine SR ?_;refine K1 ?_;refine X.nil (ES.seq (VS.ret (ES.blkR (ES.thnR (ES.thnR (ES.blkR (ES.thnR ?_)))))));exact ES.ret R1
      ·(iterate 3 refine X.gY h11 ?_;refine K1 ?_);refine X.gY h11 ?_;refine X.idxT (fun h12=>?_);(iterate 3 refine X.gY h11 ?_;refine K1 ?_);refine X.gY h11 ?_;refine X.idxT (fun h13=>?_);(iterate 2 refine X.gY h11 ?_;refine K1 ?_);refine X.gY h11 ?_;refine X.build ?_;(iterate 2 refine X.gY h11 ?_;refine K1 ?_);refine X.gY h11 ?_;refine X.call true [] [] (r03_Inside_ok _ _) (fun x3=>?_);refine X.gY h11 ?_;refine K1 ?_;refine X.pF h11 ?_;refine ND ?_;refine ES.seq ?_
       refine VS.cond (fun h14=>?_) (fun h14=>?_)
       ·refine SR ?_;refine K1 ?_;refine X.nil (ES.seq (VS.ret (ES.blkR (ES.thnR (ES.thnR (ES.blkR (ES.thnR ?_)))))));exact ES.ret R1
       ·refine KB ?_;refine K1 ?_;refine X.ck fun h15=>?_;refine K1 ?_;refine X.nil ?_;exact GL ih_again1
    ·refine VS.exit (ES.thnE (ES.thnE (ES.blkE (ES.seq (VS.seq (VS.seq (VS.region ?_)))))));refine K3 ?_;refine X.remS fun h16=>?_;refine K2 ?_
     refine X.bif (fun h17=>?_) (fun h17=>?_)
     ·(iterate 5 refine X.gN h17 ?_);refine X.pT h17 ?_;refine K1 ?_;(iterate 5 refine X.gN rfl ?_);refine X.pT rfl ?_;refine NS ?_;refine VS.condT rfl ?_;refine SR ?_;refine K1 ?_;refine NU ?_;exact ES.ret R1
     ·(iterate 5 refine X.gY h17 ?_;refine K1 ?_);refine X.pF h17 ?_;refine K1 ?_
      refine X.bif (fun h18=>?_) (fun h18=>?_)
      ·(iterate 5 refine X.gN h18 ?_);refine X.pT h18 ?_;refine NS ?_;refine VS.condT rfl ?_;refine SR ?_;refine K1 ?_;refine NU ?_;exact ES.ret R1
      ·(iterate 5 refine X.gY h18 ?_;refine K1 ?_);refine X.pF h18 ?_;refine NS ?_
       refine VS.cond (fun h19=>?_) (fun h19=>?_)
       ·refine SR ?_;refine K1 ?_;refine NU ?_;exact ES.ret R1
       ·refine KR ?_;refine K1 ?_;refine NT ?_;exact ES.ret R1
theorem r25_clash_ok (f1:AFunc) (l1:ALive) (y1:ALayout) (k1:Int):∀r:Int × Bool,r25_clash f1 l1 y1 k1 r→FC 88 [] [.agg ((row_AFunc f1).map .v),.agg ((row_ALive l1).map .v),.agg ((row_ALayout y1).map .v),cI k1] (.tup [cI r.1,.c (.v (.bool r.2))]) [] []:=by
 refine fnS 96 ?_;unfold r25_clash;refine SR ?_;refine X.box 0 ?_;refine X.box 1 ?_;refine X.box 2 ?_;refine K2 ?_;refine NR ?_;refine K3 ?_;refine X.idxT (fun h1=>?_);refine K1 ?_;refine X.alloc 3 ?_;refine X.st ?_;refine NR ?_;refine K1 ?_;refine X.call true [] [] (r15_Defines_ok _) (fun x1=>?_);refine K3 ?_;refine K2 ?_;refine NS ?_
 refine VS.join (fun (_:Unit)=>(⟨[(3,wI k1),(4,wP 0),(5,wP 1),(6,wP 2),(11,wI x1.1)],[some (.bx 60 ((row_AFunc f1).map .v)),some (.bx 87 ((row_ALive l1).map .v)),some (.bx 66 ((row_ALayout y1).map .v))]⟩:St)) ?_ ?_
 ·rintro ⟨⟩;refine SS ?_;refine K1 ?_;refine NO ?_;refine VS.loop (fun (i1:Int)=>(⟨[(3,wI k1),(4,wP 0),(5,wP 1),(6,wP 2),(11,wI x1.1),(13,wI i1)],[some (.bx 60 ((row_AFunc f1).map .v)),some (.bx 87 ((row_ALive l1).map .v)),some (.bx 66 ((row_ALayout y1).map .v))]⟩:St)) (j0:=0) (LSB rfl rfl rfl rfl) ?_;rintro n1 again1 ih_again1 i1;refine SS ?_;refine K3 ?_;refine K1 ?_;refine X.idxT (fun h2=>?_);refine K1 ?_;refine X.lenT ?_;refine K1 ?_;refine NS ?_
  refine VS.cond (fun h3=>?_) (fun h3=>?_)
  ·refine KW ?_;refine K3 ?_;refine X.idxT (fun h4=>?_);refine K2 ?_;refine X.idxT (fun h5=>?_);refine K2 ?_;refine X.nil (ES.seq (VS.seq (VS.drawn ?_)));refine K3 ?_;refine K1 ?_
   refine X.bif (fun h6=>?_) (fun h6=>?_)
   ·(iterate 3 refine X.gY h6 ?_;refine K1 ?_);refine X.gY h6 ?_;refine X.idxT (fun h7=>?_);(iterate 4 refine X.gY h6 ?_;refine K1 ?_);refine X.gY h6 ?_;refine X.idxT (fun h8=>?_);(iterate 2 refine X.gY h6 ?_;refine K1 ?_);refine X.gY h6 ?_;refine X.build ?_;(iterate 3 refine X.gY h6 ?_;refine K1 ?_);refine X.gY h6 ?_;refine X.idxT (fun h9=>?_);(iterate 4 refine X.gY h6 ?_;refine K1 ?_);refine X.gY h6 ?_;refine X.idxT (fun h10=>?_);(iterate 2 refine X.gY h6 ?_;refine K1 ?_);refine X.gY h6 ?_;refine X.build ?_;refine X.gY h6 ?_;refine X.call true [] [] (r03_Overlap_ok _ _) (fun x2=>?_);refine X.pT h6 ?_;refine ND ?_;refine ES.seq ?_
    refine VS.cond (fun h11=>?_) (fun h11=>?_)
    ·refine SR ?_;refine K3 ?_;refine X.nil (ES.seq (VS.ret (ES.blkR (ES.thnR (ES.thnR (ES.blkR (ES.thnR ?_)))))));exact ES.ret (Ret.clo [_,_] ⟨rfl,rfl,trivial⟩ trivial)
    ·refine KB ?_;refine K1 ?_;refine X.ck fun h12=>?_;refine K1 ?_;refine X.nil ?_;exact GL ih_again1
   ·(iterate 25 refine X.gN h6 ?_);refine X.pF h6 ?_;refine ND ?_;refine ES.seq ?_;refine VS.condF rfl ?_;refine KB ?_;refine K1 ?_;refine X.ck fun h13=>?_;refine K1 ?_;refine X.nil ?_;exact GL ih_again1
  ·refine XE ?_;refine K2 ?_;refine NT ?_;exact ES.ret (Ret.clo [_,_] ⟨rfl,rfl,trivial⟩ trivial)
 ·intro k2 ih_k2;refine VS.seq (VS.drawn ?_);refine K3 ?_
  refine X.bif (fun h14=>?_) (fun h14=>?_)
  ·(iterate 4 refine X.gN h14 ?_);(iterate 13 refine X.gU ?_);refine X.gN h14 ?_;refine X.pT h14 ?_;refine ND ?_;refine ES.seq ?_;refine VS.condT rfl ?_;refine SR ?_;refine K2 ?_;refine NU ?_;exact ES.ret (Ret.clo [_,_] ⟨rfl,rfl,trivial⟩ trivial)
  ·(iterate 4 refine X.gY h14 ?_;refine K1 ?_)
   refine X.bif (fun h15=>?_) (fun h15=>?_)
   ·(iterate 4 refine X.gY h15 ?_;refine K1 ?_);refine X.gY h15 ?_;refine X.idxT (fun h16=>?_);(iterate 5 refine X.gY h15 ?_;refine K1 ?_);refine X.gY h15 ?_;refine X.idxT (fun h17=>?_);(iterate 2 refine X.gY h15 ?_;refine K1 ?_);refine X.gY h14 ?_;refine X.pT h15 ?_;refine X.pF h14 ?_;refine ND ?_;refine ES.seq ?_
    refine VS.cond (fun h18=>?_) (fun h18=>?_)
    ·refine SR ?_;refine K2 ?_;refine NU ?_;exact ES.ret (Ret.clo [_,_] ⟨rfl,rfl,trivial⟩ trivial)
    ·refine VS.skip ?_;exact JL ih_k2
   ·(iterate 13 refine X.gN h15 ?_);refine X.gY h14 ?_;refine X.pF h15 ?_;refine X.pF h14 ?_;refine ND ?_;refine ES.seq ?_;refine VS.condF rfl ?_;refine VS.skip ?_;exact JL ih_k2
theorem r25_Clash_ok (p1:AProgram) (i1:Int) (align1:Int) (l1:ALive) (y1:ALayout):∀r:Int × Int × Bool,r25_Clash p1 i1 align1 l1 y1 r→FC 52 [] [.agg ((row_AProgram p1).map .v),cI i1,cI align1,.agg ((row_ALive l1).map .v),.agg ((row_ALayout y1).map .v)] (.tup [cI r.1,cI r.2.1,.c (.v (.bool r.2.2))]) [] []:=by
 refine fnS 58 ?_;unfold r25_Clash;refine SR ?_;refine X.box 0 ?_;refine X.box 1 ?_;refine X.box 2 ?_;refine K3 ?_;refine X.nil (ES.seq (VS.seq (VS.seq (VS.drawn ?_))));refine K3 ?_;refine K1 ?_;refine X.call true [] [] (r25_Shape_ok _ _ _ _) (fun x1=>?_);refine K2 ?_
 refine X.bif (fun h1=>?_) (fun h1=>?_)
 ·(iterate 8 refine X.gN h1 ?_);refine X.pT h1 ?_;refine ND ?_;refine ES.seq ?_;refine VS.condT rfl ?_;refine SR ?_;refine K3 ?_;refine NU ?_;exact ES.ret (Ret.clo [_,_,_] ⟨rfl,rfl,rfl,trivial⟩ trivial)
 ·(iterate 3 refine X.gY h1 ?_;refine K1 ?_);refine X.gY h1 ?_;refine X.idxT (fun h2=>?_);(iterate 2 refine X.gY h1 ?_;refine K1 ?_);refine X.gY h1 ?_;refine X.call true [] [] (r17_Check_ok _ _) (fun x2=>?_);refine X.gY h1 ?_;refine K1 ?_;refine X.pF h1 ?_;refine ND ?_;refine ES.seq ?_
  refine VS.cond (fun h3=>?_) (fun h3=>?_)
  ·refine SR ?_;refine K3 ?_;refine NU ?_;exact ES.ret (Ret.clo [_,_,_] ⟨rfl,rfl,rfl,trivial⟩ trivial)
  ·refine VS.skip (ES.seq (VS.seq (VS.seq (VS.region ?_))));refine K1 ?_;refine NO ?_;refine VS.loop (fun (k1:Int)=>(⟨[(1,wI i1),(5,wP 0),(8,wP 1),(9,wP 2),(13,wI k1)],[some (.bx 28 ((row_AProgram p1).map .v)),some (.bx 87 ((row_ALive l1).map .v)),some (.bx 66 ((row_ALayout y1).map .v))]⟩:St)) (j0:=0) (LSB rfl rfl rfl rfl) ?_;rintro n1 again1 ih_again1 k1;refine SS ?_;refine K3 ?_;refine K1 ?_;refine X.idxT (fun h4=>?_);refine K2 ?_;refine X.lenT ?_;refine K1 ?_;refine NS ?_
   refine VS.cond (fun h5=>?_) (fun h5=>?_)
   ·refine VS.skip (ES.seq (VS.seq (VS.block (VS.seq (VS.drawn ?_)))));refine K3 ?_;refine X.idxT (fun h6=>?_);refine K3 ?_;refine K1 ?_;refine X.call true [] [] (r25_clash_ok _ _ _ _) (fun x3=>?_);refine K3 ?_;refine K2 ?_;refine ND ?_;refine ES.seq (VS.seq (VS.region ?_));refine K1 ?_;refine NS ?_
    refine VS.cond (fun h7=>?_) (fun h7=>?_)
    ·refine SR ?_;refine K3 ?_;refine K2 ?_;refine X.nil (ES.seq (VS.ret (ES.blkR (ES.thnR (ES.thnR (ES.blkR (ES.thnR ?_)))))));exact ES.ret (Ret.clo [_,_,_] ⟨rfl,rfl,rfl,trivial⟩ trivial)
    ·refine KB ?_;refine K1 ?_;refine X.ck fun h8=>?_;refine K1 ?_;refine X.nil ?_;exact GL ih_again1
   ·refine XE ?_;refine K3 ?_;refine NT ?_;exact ES.ret (Ret.clo [_,_,_] ⟨rfl,rfl,rfl,trivial⟩ trivial)
theorem r25_Check_ok (p1:AProgram) (i1:Int) (align1:Int) (l1:ALive) (y1:ALayout):∀r:Int,r25_Check p1 i1 align1 l1 y1 r→FC 28 [] [.agg ((row_AProgram p1).map .v),cI i1,cI align1,.agg ((row_ALive l1).map .v),.agg ((row_ALayout y1).map .v)] (.w (cI r)) [] []:=by
 refine fnS 45 ?_;unfold r25_Check;refine SR ?_;refine X.box 0 ?_;refine X.box 1 ?_;refine X.box 2 ?_;refine K1 ?_;refine NV ?_;refine K3 ?_;refine K1 ?_;refine X.call true [] [] (r25_Shape_ok _ _ _ _) (fun x1=>?_);refine K1 ?_;refine NR ?_;refine K2 ?_;refine NS ?_
 refine VS.cond (fun h1=>?_) (fun h1=>?_)
 ·refine SR ?_;refine K2 ?_;refine NU ?_;exact ES.ret R1
 ·refine VS.skip (ES.seq (VS.seq (VS.seq (VS.drawn ?_))));refine K3 ?_;refine X.idxT (fun h2=>?_);refine K2 ?_;refine X.call true [] [] (r17_Check_ok _ _) (fun x2=>?_);refine K1 ?_;refine ND ?_;refine ES.seq (VS.seq (VS.region ?_));refine K2 ?_;refine NS ?_
  refine VS.cond (fun h3=>?_) (fun h3=>?_)
  ·refine SR ?_;refine K2 ?_;refine NU ?_;exact ES.ret R1
  ·refine VS.skip (ES.seq (VS.seq (VS.seq (VS.region ?_))));refine K3 ?_;refine K2 ?_;refine X.call true [] [] (r25_Clash_ok _ _ _ _ _) (fun x3=>?_);refine K3 ?_;refine K3 ?_;refine K1 ?_;refine NR ?_;refine K1 ?_;refine NS ?_
   refine VS.cond (fun h4=>?_) (fun h4=>?_)
   ·refine SR ?_;refine K1 ?_;refine NU ?_;exact ES.ret R1
   ·refine KR ?_;refine K1 ?_;refine NT ?_;exact ES.ret R1
theorem law26_scene_ok (codes1:List Int) (odd1:Bool):∀r:AProgram × Int × List ALayout × DCodes,law26_scene codes1 odd1 r→FC 15 [] [.c (.v (.tree (codes1.map bRow))),.c (.v (.bool odd1))] (.tup [.agg ((row_AProgram r.1).map .v),cI r.2.1,.c (.v (.tree (r.2.2.1.map row_ALayout))),.c (.ptr 0 0 0)]) [.bx 68 ((row_DCodes r.2.2.2).map .v)] []:=by
 refine fnS 74 ?_;unfold law26_scene;refine SR ?_;refine X.alloc 0 ?_;refine K3 ?_;refine NR ?_;refine K1 ?_;refine X.callE 1 [] (draw_New_ok _ _) (fun x1=>?_);refine K1 ?_;refine NR ?_;refine K1 ?_;refine X.call true [] [1] (draw_Program_ok _ _ _) (fun x2=>?_);refine X.alloc 2 ?_;refine X.st ?_;refine NR ?_;refine K1 ?_;refine X.call true [] [] (r05_Align_ok _) (fun x3=>?_);refine K1 ?_;refine NR ?_;refine K1 ?_;refine NV ?_;refine K1 ?_;refine NO ?_;refine VS.loop (fun jj:Int × DCodes × List ALayout=>(⟨[(1,.w (.c (.v (.bool odd1)))),(4,wP 0),(8,wP 1),(9,wP 2),(10,wI x3),(11,wM 3),(12,wI jj.1)],[some (.bx 28 [aT row_AFunc ([]:List AFunc)]),some (.bx 68 ((row_DCodes jj.2.1).map .v)),some (.bx 28 ((row_AProgram x2.1).map .v)),some (.sl 66 3 false (jj.2.2.map row_ALayout))]⟩:St)) (j0:=(0,x2.2,([]:List ALayout))) ((St.le_keep _ [1,4,8,9,10,11,12]).trans ((St.le_adopt _ 11 3 66 3 rfl rfl).trans (LSB rfl rfl rfl rfl))) ?_
 rintro n1 again1 ih_again1 ⟨i1,c1,l1⟩;refine SS ?_;refine K3 ?_;refine X.lenT ?_;refine K1 ?_;refine NS ?_
 refine VS.cond (fun h1=>?_) (fun h1=>?_)
 ·refine KW ?_;refine K3 ?_;refine X.call true [] [] (r24_Baseline_ok _ _ _) (fun x4=>?_);refine K3 ?_;refine X.alloc 4 ?_;refine X.st ?_;refine K1 ?_;refine NV ?_;refine K3 ?_;refine K1 ?_;refine X.call true [] [1] (draw_Layout_ok _ _ _ _) (fun x5=>?_);refine X.alloc 5 ?_;refine X.st ?_;refine X.nil (ES.seq (VS.seq (VS.drawn ?_)));refine K2 ?_
  refine X.bif (fun h2=>?_) (fun h2=>?_)
  ·(iterate 13 refine X.gN h2 ?_);refine X.pT h2 ?_;refine ND ?_;refine ES.seq ?_;refine VS.condT rfl ?_;refine VS.region ?_;refine K1 ?_;refine X.st ?_;refine NG ?_;refine K2 ?_;refine X.bs 6 ([x5.1]:List ALayout) row_ALayout ?_;refine X.appMM 7 (l:=l1) (l':=([x5.1]:List ALayout)) (fun h3=>?_);refine K1 ?_;refine NB ?_;refine K1 ?_;refine X.ck fun h4=>?_;refine K1 ?_;refine X.nil ?_;exact ES.go ih_again1 _ ((St.le_mvB _ 7 3 rfl rfl rfl rfl).trans (LSB rfl rfl rfl rfl))
  ·(iterate 7 refine X.gY h2 ?_;refine K1 ?_);refine X.gY h2 ?_;refine X.idxT (fun h5=>?_);refine X.gY h2 ?_;refine K1 ?_;refine X.gY h2 ?_;refine X.call true [] [1] (draw_Lives_ok _ _) (fun x6=>?_);refine X.gY h2 ?_;refine K1 ?_;refine X.gY h2 ?_;refine X.call true [] [] (r25_Check_ok _ _ _ _ _) (fun x7=>?_);refine X.gY h2 ?_;refine K1 ?_;refine X.pF h2 ?_;refine ND ?_;refine ES.seq ?_
   refine VS.cond (fun h6=>?_) (fun h6=>?_)
   ·refine VS.region ?_;refine K1 ?_;refine X.st ?_;refine NG ?_;refine K2 ?_;refine X.bs 6 ([x5.1]:List ALayout) row_ALayout ?_;refine X.appMM 7 (l:=l1) (l':=([x5.1]:List ALayout)) (fun h7=>?_);refine K1 ?_;refine NB ?_;refine K1 ?_;refine X.ck fun h8=>?_;refine K1 ?_;refine X.nil ?_;exact ES.go ih_again1 _ ((St.le_mvB _ 7 3 rfl rfl rfl rfl).trans (LSB rfl rfl rfl rfl))
   ·refine VS.skip (ES.seq (VS.region ?_));refine K2 ?_;refine X.bs 6 ([x4.1]:List ALayout) row_ALayout ?_;refine X.appMM 7 (l:=l1) (l':=([x4.1]:List ALayout)) (fun h9=>?_);refine K1 ?_;refine NB ?_;refine K1 ?_;refine X.ck fun h10=>?_;refine K1 ?_;refine X.nil ?_;exact ES.go ih_again1 _ ((St.le_mvB _ 7 3 rfl rfl rfl rfl).trans (LSB rfl rfl rfl rfl))
 ·refine VS.exit (ES.thnE (ES.thnE (ES.blkE (ES.seq ?_))))
  refine VS.join (fun jj:List ALayout × DCodes=>(⟨[(4,wP 0),(8,wP 1),(9,wP 2),(10,wI x3),(11,wT row_ALayout jj.1)],[some (.bx 28 [aT row_AFunc ([]:List AFunc)]),some (.bx 68 ((row_DCodes jj.2).map .v)),some (.bx 28 ((row_AProgram x2.1).map .v))]⟩:St)) ?_ ?_
  ·rintro ⟨l2,c2⟩;refine SR ?_;refine K3 ?_;refine K1 ?_;refine X.st ?_;refine K3 ?_;refine NT ?_;exact ES.ret (Ret.cloE 1 [.agg ((row_AProgram x2.1).map .v),.c (aI x3),.c (aT row_ALayout l2),.c (.ptr 1 0 0)] ⟨⟨_,_,_,_,_,_,rfl,rfl,fits rfl,rfl⟩,rfl,rfl,rfl,trivial⟩ trivial)
  ·intro k1 ih_k1;refine SR ?_;refine K2 ?_
   refine X.bif (fun h11=>?_) (fun h11=>?_)
   ·refine X.gY h11 ?_;refine K1 ?_;refine X.gY h11 ?_;refine X.call true [] [1] (draw_Next_ok _ _) (fun x8=>?_);refine X.gY h11 ?_;refine K1 ?_;refine X.pT h11 ?_;refine NS ?_
    refine VS.cond (fun h12=>?_) (fun h12=>?_)
    ·refine VS.weak (St.le_tree _ 11 3 rfl rfl) ?_;refine VS.region ?_;refine K1 ?_;refine X.sliceT (some 1) none (fun h13=>?_) ⟨_,rfl⟩ trivial;refine K1 ?_;refine X.nil ?_;exact JL ih_k1
    ·refine VS.skip ?_;exact ES.jn ih_k1 _ ((St.le_tree _ 11 3 rfl rfl).trans (LSB rfl rfl rfl rfl))
   ·(iterate 3 refine X.gN h11 ?_);refine X.pF h11 ?_;refine NS ?_;refine VS.condF rfl ?_;refine VS.skip ?_;exact ES.jn ih_k1 _ ((St.le_tree _ 11 3 rfl rfl).trans (LSB rfl rfl rfl rfl))
theorem pack_Args_ok (p1:AProgram) (i1:Int):∀r:Int,pack_Args p1 i1 r→FC 67 [] [.agg ((row_AProgram p1).map .v),cI i1] (.w (cI r)) [] []:=by
 refine fnS 42 ?_;unfold pack_Args;refine SR ?_;refine X.box 0 ?_;refine K1 ?_;refine NR ?_;refine K1 ?_;refine NV ?_;refine K3 ?_;refine X.idxT (fun h1=>?_);refine K2 ?_;refine X.lenT ?_;refine K1 ?_;refine NO ?_;refine VS.loop (fun jj:Int × Int=>(⟨[(2,wP 0),(5,wI jj.1),(13,wT row_AInstr ((atD p1.Funcs i1).Code)),(14,wI (((atD p1.Funcs i1).Code).length:Int)),(15,wI jj.2)],[some (.bx 28 ((row_AProgram p1).map .v))]⟩:St)) (j0:=(0,0)) (LSB rfl rfl rfl rfl) ?_;rintro n2 again1 ih_again1 ⟨n1,x1⟩;refine SR ?_;refine K1 ?_;refine NQ ?_
 refine VS.cond (fun h2=>?_) (fun h2=>?_)
 ·refine KW ?_;refine X.idxT (fun h3=>?_);refine K1 ?_;refine X.alloc 1 ?_;refine X.st ?_;refine NR ?_;refine K2 ?_;refine X.nil (ES.seq (VS.block (VS.seq (VS.region ?_))));refine K2 ?_;refine NS ?_
  refine VS.cond (fun h4=>?_) (fun h4=>?_)
  ·refine VS.region ?_;refine K3 ?_;refine X.ck fun h5=>?_;refine X.max ?_;refine K1 ?_;refine X.nil (ES.blkN (ES.blkN (ES.seq (VS.region ?_))));refine X.ck fun h6=>?_;refine K1 ?_;refine X.nil ?_;exact GL ih_again1
  ·refine SR ?_;refine K2 ?_;refine NS ?_
   refine VS.cond (fun h7=>?_) (fun h7=>?_)
   ·refine VS.region ?_;refine K3 ?_;refine K2 ?_;refine X.idxT (fun h8=>?_);refine K2 ?_;refine X.max ?_;refine K1 ?_;refine X.nil (ES.blkN (ES.blkN (ES.seq (VS.region ?_))));refine X.ck fun h9=>?_;refine K1 ?_;refine X.nil ?_;exact GL ih_again1
   ·refine VS.skip (ES.blkN (ES.blkN (ES.seq (VS.region ?_))));refine X.ck fun h10=>?_;refine K1 ?_;refine X.nil ?_;exact GL ih_again1
 ·refine XE ?_;refine K1 ?_;refine X.ck fun h11=>?_;refine K1 ?_;refine NT ?_;exact ES.ret R1
theorem extent_bound_ok (n1:Int):∀r:Bool,extent_bound n1 r→FC 138 [] [cI n1] (.w (.c (.v (.bool r)))) [] []:=by
 refine fnS 9 ?_;unfold extent_bound;refine SR ?_;refine K1 ?_;refine NR ?_;refine K3 ?_
 refine X.bif (fun h1=>?_) (fun h1=>?_)
 ·(iterate 2 refine X.gY h1 ?_;refine K1 ?_);refine X.pT h1 ?_;refine K1 ?_;refine NT ?_;exact ES.ret R1
 ·(iterate 2 refine X.gN h1 ?_);refine X.pF h1 ?_;refine K1 ?_;refine NT ?_;exact ES.ret R1
theorem extent_Power_ok (n1:Int):∀r:Bool,extent_Power n1 r→FC 139 [] [cI n1] (.w (.c (.v (.bool r)))) [] []:=by
 refine fnS 16 ?_;unfold extent_Power;refine SR ?_;refine K1 ?_;refine NR ?_;refine K3 ?_
 refine X.bif (fun h1=>?_) (fun h1=>?_)
 ·(iterate 2 refine X.gY h1 ?_;refine K1 ?_);refine X.pT h1 ?_;refine K1 ?_
  refine X.bif (fun h2=>?_) (fun h2=>?_)
  ·(iterate 2 refine X.gY h2 ?_;refine K1 ?_);refine X.gY h2 ?_;refine X.ck fun h3=>?_;refine X.gY h2 ?_;refine X.bits ?_;refine X.gY h2 ?_;refine K1 ?_;refine X.pT h2 ?_;refine K1 ?_;refine NT ?_;exact ES.ret R1
  ·(iterate 5 refine X.gN h2 ?_);refine X.pF h2 ?_;refine K1 ?_;refine NT ?_;exact ES.ret R1
 ·(iterate 2 refine X.gN h1 ?_);refine X.pF h1 ?_;refine K1 ?_;(iterate 5 refine X.gN rfl ?_);refine X.pF rfl ?_;refine K1 ?_;refine NT ?_;exact ES.ret R1
theorem extent_up_ok (n1:Int) (align1:Int):∀r:Int,extent_up n1 align1 r→FC 141 [] [cI n1,cI align1] (.w (cI r)) [] []:=by
 refine fnS 12 ?_;unfold extent_up;refine SR ?_;refine K1 ?_;refine NR ?_;refine K2 ?_;refine X.ck fun h1=>?_;refine X.ck fun h2=>?_;refine K1 ?_;refine X.ck fun h3=>?_;refine X.bits ?_;refine K1 ?_;refine NT ?_;exact ES.ret R1
end Go.Proofs.YtgbkhjllbgmdcaaGreat.Q
