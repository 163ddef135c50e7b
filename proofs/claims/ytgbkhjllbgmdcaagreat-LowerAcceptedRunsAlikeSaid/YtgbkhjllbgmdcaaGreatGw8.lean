/- Walks of functions: the code does what the lifted text says (written by a program). -/
import Derived.Test.YtgbkhjllbgmdcaaGreatLR
import Derived.Test.YtgbkhjllbgmdcaaGreatGw7
set_option linter.unusedVariables false
set_option linter.unusedSimpArgs false
set_option maxRecDepth 8000
namespace Go.Proofs.YtgbkhjllbgmdcaaGreat.Q
open Go.RowKit
set_option maxHeartbeats 4000000
theorem extent_limited_ok (n1:Int):∀r:Int × Int,extent_limited n1 r→FC 140 [] [cI n1] (.tup [cI r.1,cI r.2]) [] []:=by
 refine fnS 7 ?_;unfold extent_limited;refine SR ?_;refine K2 ?_;refine NV ?_;refine K2 ?_;refine NS ?_
 refine VS.cond (fun h1=>?_) (fun h1=>?_)
 ·refine SR ?_;refine K2 ?_;refine NU ?_;exact ES.ret (Ret.clo [_,_] ⟨rfl,rfl,trivial⟩ trivial)
 ·refine KR ?_;refine K3 ?_;refine NT ?_;exact ES.ret (Ret.clo [_,_] ⟨rfl,rfl,trivial⟩ trivial)
theorem extent_Up_ok (n1:Int) (align1:Int):∀r:Int × Int,extent_Up n1 align1 r→FC 92 [] [cI n1,cI align1] (.tup [cI r.1,cI r.2]) [] []:=by
 refine fnS 20 ?_;unfold extent_Up;refine SR ?_;refine K2 ?_;refine NV ?_;refine K1 ?_;refine X.call true [] [] (extent_bound_ok _) (fun x1=>?_);refine K2 ?_
 refine X.bif (fun h1=>?_) (fun h1=>?_)
 ·(iterate 3 refine X.gN h1 ?_);refine X.pT h1 ?_;refine NS ?_;refine VS.condT rfl ?_;refine SR ?_;refine K2 ?_;refine NU ?_;exact ES.ret (Ret.clo [_,_] ⟨rfl,rfl,trivial⟩ trivial)
 ·refine X.gY h1 ?_;refine K1 ?_;refine X.gY h1 ?_;refine X.call true [] [] (extent_Power_ok _) (fun x2=>?_);refine X.gY h1 ?_;refine K1 ?_;refine X.pF h1 ?_;refine NS ?_
  refine VS.cond (fun h2=>?_) (fun h2=>?_)
  ·refine SR ?_;refine K2 ?_;refine NU ?_;exact ES.ret (Ret.clo [_,_] ⟨rfl,rfl,trivial⟩ trivial)
  ·refine KR ?_;refine K2 ?_;refine X.call true [] [] (extent_up_ok _ _) (fun x3=>?_);refine X.call true [] [] (extent_limited_ok _) (fun x4=>?_);refine K3 ?_;refine K1 ?_;refine NT ?_;exact ES.ret (Ret.clo [_,_] ⟨rfl,rfl,trivial⟩ trivial)
theorem extent_Add_ok (x1:Int) (y1:Int):∀r:Int × Int,extent_Add x1 y1 r→FC 93 [] [cI x1,cI y1] (.tup [cI r.1,cI r.2]) [] []:=by
 refine fnS 20 ?_;unfold extent_Add;refine SR ?_;refine K2 ?_;refine NV ?_;refine K1 ?_;refine X.call true [] [] (extent_bound_ok _) (fun x2=>?_);refine K2 ?_
 refine X.bif (fun h1=>?_) (fun h1=>?_)
 ·(iterate 3 refine X.gN h1 ?_);refine X.pT h1 ?_;refine NS ?_;refine VS.condT rfl ?_;refine SR ?_;refine K2 ?_;refine NU ?_;exact ES.ret (Ret.clo [_,_] ⟨rfl,rfl,trivial⟩ trivial)
 ·refine X.gY h1 ?_;refine K1 ?_;refine X.gY h1 ?_;refine X.call true [] [] (extent_bound_ok _) (fun x3=>?_);refine X.gY h1 ?_;refine K1 ?_;refine X.pF h1 ?_;refine NS ?_
  refine VS.cond (fun h2=>?_) (fun h2=>?_)
  ·refine SR ?_;refine K2 ?_;refine NU ?_;exact ES.ret (Ret.clo [_,_] ⟨rfl,rfl,trivial⟩ trivial)
  ·refine KR ?_;refine K2 ?_;refine X.ck fun h3=>?_;refine X.call true [] [] (extent_limited_ok _) (fun x4=>?_);refine K3 ?_;refine K1 ?_;refine NT ?_;exact ES.ret (Ret.clo [_,_] ⟨rfl,rfl,trivial⟩ trivial)
theorem pack_sized_ok (y1:ALayout) (end1:Int) (align1:Int):∀r:ALayout × Int,pack_sized y1 end1 align1 r→FC 94 [] [.agg ((row_ALayout y1).map .v),cI end1,cI align1] (.tup [.agg ((row_ALayout r.1).map .v),cI r.2]) [] []:=by
 refine fnS 29 ?_;unfold pack_sized;refine SR ?_;refine X.box 0 ?_;refine X.alloc 1 ?_;refine K1 ?_;refine NR ?_;refine K2 ?_;refine X.call true [] [] (extent_Up_ok _ _) (fun x1=>?_);refine K3 ?_;refine K2 ?_;refine NS ?_
 refine VS.join (fun (e1:Int)=>(⟨[(3,wP 0),(6,wP 1),(8,wI x1.1),(9,wI e1)],[some (.bx 66 ((row_ALayout y1).map .v)),some (.bx 66 [aI 0,aI 0,aT iRow ([]:List Int)])]⟩:St)) ?_ ?_
 ·rintro e1;refine SS ?_;refine K2 ?_;refine NS ?_
  refine VS.cond (fun h1=>?_) (fun h1=>?_)
  ·refine SR ?_;refine X.build ?_;refine X.st ?_;refine K1 ?_;refine NU ?_;exact ES.ret (Ret.clo [_,_] ⟨⟨_,_,_,_,_,_,rfl,rfl,fits rfl,rfl⟩,rfl,trivial⟩ trivial)
  ·refine KR ?_;refine K2 ?_;refine X.st ?_;refine NR ?_;refine K1 ?_;refine X.st ?_;refine K1 ?_;refine NT ?_;exact ES.ret (Ret.clo [_,_] ⟨⟨_,_,_,_,_,_,rfl,rfl,fits rfl,rfl⟩,rfl,trivial⟩ trivial)
 ·intro k1 ih_k1;refine SR ?_;refine K2 ?_;refine NS ?_
  refine VS.cond (fun h2=>?_) (fun h2=>?_)
  ·refine VS.region ?_;refine K1 ?_;refine X.call true [] [] (extent_Add_ok _ _) (fun x2=>?_);refine K3 ?_;refine K1 ?_;refine X.nil ?_;exact JL ih_k1
  ·refine VS.skip ?_;exact JL ih_k1
theorem pack_Baseline_ok (p1:AProgram) (i1:Int) (align1:Int):∀r:ALayout × Int,pack_Baseline p1 i1 align1 r→FC 66 [] [.agg ((row_AProgram p1).map .v),cI i1,cI align1] (.tup [.agg ((row_ALayout r.1).map .v),cI r.2]) [] []:=by
 refine fnS 63 ?_;unfold pack_Baseline;refine SR ?_;refine X.boxR 0 ?_;refine X.allocR 1 ?_;refine K1 ?_;refine NR ?_;refine K2 ?_;refine X.call true [] [] (pack_Args_ok _ _) (fun x1=>?_);refine X.buildR ?_;refine X.allocR 2 ?_;refine X.stR ?_;refine NR ?_;refine K3 ?_;refine NV ?_;refine K3 ?_;refine X.idxT (fun h1=>?_);refine K2 ?_;refine X.lenT ?_;refine K1 ?_;refine NO ?_;refine VS.loop (fun jj:Int × Int × List Int=>(⟨[(2,wI align1),(6,wP 0),(8,wP 1),(9,wI jj.1),(25,wT row_ASlot ((atD p1.Funcs i1).Slots)),(26,wI (((atD p1.Funcs i1).Slots).length:Int)),(27,wI jj.2.1)],[some (.bx 66 [aI 0,aI 0,.v .nil]),some (.bx 66 [aI x1,aI 0,.mref 2]),some (.sl 3 1 false (jj.2.2.map iRow))]⟩:St)) (j0:=(x1,0,([]:List Int))) ((St.le_keep _ [2,6,8,9,25,26,27]).trans ((St.le_drop _ 0 (Nat.le_of_ble_eq_true rfl)).trans ((St.le_mvB _ 1 0 rfl rfl rfl rfl).trans ((St.le_mvB _ 2 1 rfl rfl rfl rfl).trans ((St.le_adoptC _ 1 2 2 3 1 rfl rfl rfl rfl).trans (LSB rfl rfl rfl rfl)))))) ?_
 rintro n1 again1 ih_again1 ⟨end1,x2,own1⟩;refine SR ?_;refine K1 ?_;refine NQ ?_
 refine VS.cond (fun h2=>?_) (fun h2=>?_)
 ·refine KW ?_;refine X.idxT (fun h3=>?_);refine K1 ?_;refine X.allocR 3 ?_;refine X.stR ?_;refine NR ?_;refine K3 ?_;refine X.call true [] [] (extent_Up_ok _ _) (fun x3=>?_);refine K3 ?_;refine K2 ?_;refine NS ?_
  refine VS.join (fun jj:Int × Int=>(⟨[(2,wI align1),(6,wP 0),(8,wP 1),(9,wI jj.1),(12,wI x3.1),(13,wI jj.2),(25,wT row_ASlot ((atD p1.Funcs i1).Slots)),(26,wI (((atD p1.Funcs i1).Slots).length:Int)),(27,wI x2)],[some (.bx 66 [aI 0,aI 0,.v .nil]),some (.bx 66 [aI x1,aI 0,.mref 2]),some (.sl 3 1 false (own1.map iRow))]⟩:St)) ?_ ?_
  ·rintro ⟨end2,e1⟩;refine SS ?_;refine K2 ?_;refine NS ?_
   refine VS.cond (fun h4=>?_) (fun h4=>?_)
   ·refine SR ?_;refine X.buildR ?_;refine X.stR ?_;refine K1 ?_;refine X.nil (ES.seq (VS.ret (ES.thnR (ES.blkR (ES.thnR (ES.thnR (ES.blkR (ES.thnR ?_))))))));exact ES.ret (Ret.weak (St.le_ncell _ 0 2 rfl rfl) (Ret.clo [.agg ((row_ALayout (⟨0,0,([]:List Int)⟩:ALayout)).map .v),.c (aI 9)] ⟨⟨_,_,_,_,_,_,rfl,rfl,fits rfl,rfl⟩,rfl,trivial⟩ trivial))
   ·refine VS.skip (ES.seq (VS.region ?_));refine K3 ?_;refine X.bs 3 ([x3.1]:List Int) iRow ?_;refine X.appMM 4 (l:=own1) (l':=([x3.1]:List Int)) (fun h5=>?_);refine K1 ?_;refine X.stR ?_;refine NB ?_;refine X.ck fun h6=>?_;refine K1 ?_;refine X.nil ?_;exact ES.go ih_again1 _ ((St.le_mvB _ 4 2 rfl rfl rfl rfl).trans (LSB rfl rfl rfl rfl))
  ·intro k1 ih_k1;refine SR ?_;refine K2 ?_;refine NS ?_
   refine VS.cond (fun h7=>?_) (fun h7=>?_)
   ·refine VS.region ?_;refine K3 ?_;refine X.call true [] [] (extent_Add_ok _ _) (fun x4=>?_);refine K3 ?_;refine K2 ?_;refine X.nil ?_;exact JL ih_k1
   ·refine VS.skip ?_;exact JL ih_k1
 ·refine XE ?_;refine K3 ?_;refine X.call true [(2,.sl 3 1 false (own1.map iRow))] [] (pack_sized_ok _ _ _) (fun x5=>?_);refine K2 ?_;refine X.stR ?_;refine K1 ?_;refine NT ?_;exact ES.ret (Ret.clo [_,_] ⟨⟨_,_,_,_,_,_,rfl,rfl,fits rfl,rfl⟩,rfl,trivial⟩ trivial)
theorem layout_subject_interval_ok (s1:Layout_subject) (x1:Int):∀r:AInterval,layout_subject_interval s1 x1 r→FC 96 [] [.agg ((row_Layout_subject s1).map .v),cI x1] (.w (.agg ((row_AInterval r).map .v))) [] []:=by
 refine fnS 19 ?_;unfold layout_subject_interval;refine SR ?_;refine X.box 0 ?_;refine X.alloc 1 ?_;refine X.nil (ES.seq (VS.seq (VS.drawn ?_)));refine K3 ?_;refine K1 ?_;refine X.idxT (fun h1=>?_);refine K3 ?_;refine K2 ?_;refine X.idxT (fun h2=>?_);refine K2 ?_;refine X.build ?_;refine X.st ?_;refine ND ?_;refine ES.seq (VS.ret ?_);exact ES.ret (Ret.clo [_] ⟨⟨_,_,_,_,_,_,rfl,rfl,fits rfl,rfl⟩,trivial⟩ trivial)
theorem extent_right_ok (a1:AInterval):∀r:Bool,extent_right a1 r→FC 142 [] [.agg ((row_AInterval a1).map .v)] (.w (.c (.v (.bool r)))) [] []:=by
 refine fnS 19 ?_;unfold extent_right;refine SR ?_;refine X.box 0 ?_;refine K1 ?_;refine NR ?_;refine K2 ?_;refine X.call true [] [] (extent_bound_ok _) (fun x1=>?_);refine K1 ?_
 refine X.bif (fun h1=>?_) (fun h1=>?_)
 ·(iterate 2 refine X.gY h1 ?_;refine K1 ?_);refine X.gY h1 ?_;refine X.call true [] [] (extent_bound_ok _) (fun x2=>?_);refine X.pT h1 ?_;refine K1 ?_
  refine X.bif (fun h2=>?_) (fun h2=>?_)
  ·(iterate 4 refine X.gY h2 ?_;refine K1 ?_);refine X.gY h2 ?_;refine X.ck fun h3=>?_;refine X.gY h2 ?_;refine K1 ?_;refine X.pT h2 ?_;refine K1 ?_;refine NT ?_;exact ES.ret R1
  ·(iterate 6 refine X.gN h2 ?_);refine X.pF h2 ?_;refine K1 ?_;refine NT ?_;exact ES.ret R1
 ·(iterate 3 refine X.gN h1 ?_);refine X.pF h1 ?_;refine K1 ?_;(iterate 6 refine X.gN rfl ?_);refine X.pF rfl ?_;refine K1 ?_;refine NT ?_;exact ES.ret R1
theorem extent_Inside_ok (a1:AInterval) (size1:Int):∀r:Bool,extent_Inside a1 size1 r→FC 95 [] [.agg ((row_AInterval a1).map .v),cI size1] (.w (.c (.v (.bool r)))) [] []:=by
 refine fnS 16 ?_;unfold extent_Inside;refine SR ?_;refine X.box 0 ?_;refine K1 ?_;refine NR ?_;refine K1 ?_;refine X.call true [] [] (extent_right_ok _) (fun x1=>?_);refine K1 ?_
 refine X.bif (fun h1=>?_) (fun h1=>?_)
 ·(iterate 4 refine X.gY h1 ?_;refine K1 ?_);refine X.gY h1 ?_;refine X.ck fun h2=>?_;(iterate 2 refine X.gY h1 ?_;refine K1 ?_);refine X.pT h1 ?_;refine K1 ?_;refine NT ?_;exact ES.ret R1
 ·(iterate 7 refine X.gN h1 ?_);refine X.pF h1 ?_;refine K1 ?_;refine NT ?_;exact ES.ret R1
theorem layout_subject_placed_ok (s1:Layout_subject) (x1:Int):∀r:Bool,layout_subject_placed s1 x1 r→FC 68 [] [.agg ((row_Layout_subject s1).map .v),cI x1] (.w (.c (.v (.bool r)))) [] []:=by
 refine fnS 38 ?_;unfold layout_subject_placed;refine SR ?_;refine X.box 0 ?_;refine K1 ?_;refine NR ?_;refine K3 ?_;refine K1 ?_;refine X.idxT (fun h1=>?_);refine K2 ?_;refine X.nil (ES.seq (VS.seq (VS.drawn ?_)));refine K3 ?_;refine K3 ?_
 refine X.bif (fun h2=>?_) (fun h2=>?_)
 ·(iterate 5 refine X.gY h2 ?_;refine K1 ?_);refine X.gY h2 ?_;refine X.idxT (fun h3=>?_);(iterate 2 refine X.gY h2 ?_;refine K1 ?_);refine X.gY h2 ?_;refine X.ck fun h4=>?_;refine X.gY h2 ?_;refine K1 ?_;refine X.pT h2 ?_;refine K1 ?_
  refine X.bif (fun h5=>?_) (fun h5=>?_)
  ·(iterate 2 refine X.gY h5 ?_;refine K1 ?_);refine X.gY h5 ?_;refine X.call true [] [] (layout_subject_interval_ok _ _) (fun x2=>?_);(iterate 3 refine X.gY h5 ?_;refine K1 ?_);refine X.gY h5 ?_;refine X.call true [] [] (extent_Inside_ok _ _) (fun x3=>?_);refine X.pT h5 ?_;refine K1 ?_;refine ND ?_;refine ES.seq (VS.ret ?_);exact ES.ret R1
  ·(iterate 7 refine X.gN h5 ?_);refine X.pF h5 ?_;refine K1 ?_;refine ND ?_;refine ES.seq (VS.ret ?_);exact ES.ret R1
 ·(iterate 10 refine X.gN h2 ?_);refine X.pF h2 ?_;refine K1 ?_;(iterate 7 refine X.gN rfl ?_);refine X.pF rfl ?_;refine K1 ?_;refine ND ?_;refine ES.seq (VS.ret ?_);exact ES.ret R1
theorem layout_subject_shape_ok (s1:Layout_subject):∀r:Int,layout_subject_shape s1 r→FC 37 [] [.agg ((row_Layout_subject s1).map .v)] (.w (cI r)) [] []:=by
 refine fnS 75 ?_;unfold layout_subject_shape;refine SR ?_;refine X.box 0 ?_;refine K1 ?_;refine NR ?_;refine K3 ?_;refine K3 ?_;refine X.call true [] [] (pack_Baseline_ok _ _ _) (fun x1=>?_);refine K3 ?_;refine X.alloc 1 ?_;refine X.st ?_;refine K1 ?_;refine NV ?_;refine K2 ?_;refine NS ?_
 refine VS.cond (fun h1=>?_) (fun h1=>?_)
 ·refine SR ?_;refine K2 ?_;refine NU ?_;exact ES.ret R1
 ·refine VS.skip (ES.seq (VS.seq (VS.seq (VS.drawn ?_))));refine K3 ?_;refine K3 ?_;refine K1 ?_;refine X.call true [] [] (pack_Args_ok _ _) (fun x2=>?_);refine K2 ?_
  refine X.bif (fun h2=>?_) (fun h2=>?_)
  ·(iterate 9 refine X.gN h2 ?_);refine X.pT h2 ?_;refine ND ?_;refine ES.seq ?_;refine VS.condT rfl ?_;refine SR ?_;refine K1 ?_;refine NU ?_;exact ES.ret R1
  ·(iterate 2 refine X.gY h2 ?_;refine K1 ?_;refine X.gY h2 ?_;refine K1 ?_;refine X.gY h2 ?_;refine K1 ?_;refine X.gY h2 ?_;refine X.lenT ?_);refine X.gY h2 ?_;refine K1 ?_;refine X.pF h2 ?_;refine ND ?_;refine ES.seq ?_
   refine VS.cond (fun h3=>?_) (fun h3=>?_)
   ·refine SR ?_;refine K1 ?_;refine NU ?_;exact ES.ret R1
   ·refine VS.skip (ES.seq (VS.seq (VS.seq (VS.region ?_))));refine K3 ?_;refine X.lenT ?_;refine K1 ?_;refine NO ?_;refine VS.loop (fun (x3:Int)=>(⟨[(1,wP 0),(3,wP 1),(42,wI (s1.f.Slots.length:Int)),(43,wI x3)],[some (.bx 99 ((row_Layout_subject s1).map .v)),some (.bx 66 ((row_ALayout x1.1).map .v))]⟩:St)) (j0:=0) (LSB rfl rfl rfl rfl) ?_;rintro n1 again1 ih_again1 x3;refine SR ?_;refine K1 ?_;refine NQ ?_
    refine VS.cond (fun h4=>?_) (fun h4=>?_)
    ·refine KW ?_;refine K2 ?_;refine NR ?_;refine K2 ?_;refine X.call true [] [] (layout_subject_placed_ok _ _) (fun x4=>?_);refine K1 ?_;refine NS ?_
     refine VS.cond (fun h5=>?_) (fun h5=>?_)
     ·refine SR ?_;refine K1 ?_;refine X.nil (ES.seq (VS.ret (ES.blkR (ES.thnR (ES.thnR (ES.blkR (ES.thnR ?_)))))));exact ES.ret R1
     ·refine KB ?_;refine X.ck fun h6=>?_;refine K1 ?_;refine X.nil ?_;exact GL ih_again1
    ·refine VS.exit (ES.thnE (ES.thnE (ES.blkE (ES.seq (VS.seq (VS.seq (VS.region ?_)))))));refine K3 ?_;refine K2 ?_;refine X.ck fun h7=>?_;refine K2 ?_
     refine X.bif (fun h8=>?_) (fun h8=>?_)
     ·(iterate 7 refine X.gN h8 ?_);refine X.pT h8 ?_;refine K1 ?_;(iterate 6 refine X.gN rfl ?_);refine X.pT rfl ?_;refine NS ?_;refine VS.condT rfl ?_;refine SR ?_;refine K1 ?_;refine NU ?_;exact ES.ret R1
     ·(iterate 7 refine X.gY h8 ?_;refine K1 ?_);refine X.pF h8 ?_;refine K1 ?_
      refine X.bif (fun h9=>?_) (fun h9=>?_)
      ·(iterate 6 refine X.gN h9 ?_);refine X.pT h9 ?_;refine NS ?_;refine VS.condT rfl ?_;refine SR ?_;refine K1 ?_;refine NU ?_;exact ES.ret R1
      ·(iterate 6 refine X.gY h9 ?_;refine K1 ?_);refine X.pF h9 ?_;refine NS ?_
       refine VS.cond (fun h10=>?_) (fun h10=>?_)
       ·refine SR ?_;refine K1 ?_;refine NU ?_;exact ES.ret R1
       ·refine KR ?_;refine K1 ?_;refine NT ?_;exact ES.ret R1
theorem layout_Shape_ok (p1:AProgram) (i1:Int) (align1:Int) (y1:ALayout):∀r:Int,layout_Shape p1 i1 align1 y1 r→FC 21 [] [.agg ((row_AProgram p1).map .v),cI i1,cI align1,.agg ((row_ALayout y1).map .v)] (.w (cI r)) [] []:=by
 refine fnS 20 ?_;unfold layout_Shape;refine SR ?_;refine X.box 0 ?_;refine X.box 1 ?_;refine K1 ?_;refine X.nil (ES.seq (VS.seq (VS.drawn ?_)));refine K3 ?_;refine K3 ?_;refine X.idxT (fun h1=>?_);refine K2 ?_;refine X.build ?_;refine X.call true [] [] (layout_subject_shape_ok _) (fun x1=>?_);refine K1 ?_;refine ND ?_;refine ES.seq (VS.ret ?_);exact ES.ret R1
theorem slices_Clone___api_Instr_api_Instr__own (s1:List AInstr):∀r:List AInstr,slices_Clone___api_Instr_api_Instr_ s1 r→FC 38 [] [.c (.v (.tree (s1.map row_AInstr)))] (.w (.c (.mref 0))) [.sl 62 5 false (r.map row_AInstr)] []:=by
 refine fnS 8 ?_;unfold slices_Clone___api_Instr_api_Instr_;refine SR ?_;refine K1 ?_;refine X.nil (ES.seq (VS.seq (VS.seq ?_)))
 refine VS.nilTest (l:=s1) ?_ ?_
 ·refine ES.seq ?_;refine VS.condT rfl ?_;refine SR ?_;refine K1 ?_;refine NU ?_;exact ES.ret (Ret.weak (St.le_adopt _ 2 0 62 5 rfl rfl) (Ret.cloO 0 [.c (.mref 0)] ⟨rfl,trivial⟩ trivial))
 ·refine ES.seq ?_;refine VS.condF rfl ?_;refine KR ?_;refine X.bs 0 ([]:List AInstr) row_AInstr ?_;refine K1 ?_;refine X.appMT 1 (l:=([]:List AInstr)) (l':=s1) (fun h1=>?_);refine K1 ?_;refine NT ?_;exact ES.ret (Ret.cloO 1 [.c (.mref 1)] ⟨rfl,trivial⟩ trivial)
theorem lower_Frame_ok (p1:AProgram) (i1:Int) (y1:ALayout):∀r:AFrame,lower_Frame p1 i1 y1 r→FC 22 [] [.agg ((row_AProgram p1).map .v),cI i1,.agg ((row_ALayout y1).map .v)] (.w (.agg ((row_AFrame r).map .v))) [] []:=by
 refine fnS 48 ?_;unfold lower_Frame;refine SR ?_;refine X.box 0 ?_;refine X.box 1 ?_;refine X.alloc 2 ?_;refine NR ?_;refine K3 ?_;refine X.idxT (fun h1=>?_);refine K1 ?_;refine X.alloc 3 ?_;refine X.st ?_;refine X.nil (ES.seq (VS.seq (VS.drawn ?_)));refine K3 ?_;refine K3 ?_;refine X.callO 4 [] (slices_Clone___api_Instr_api_Instr__own _) (fun x1=>?_);refine X.build ?_;refine X.alloc 5 ?_;refine X.st ?_;refine ND ?_;refine ES.seq (VS.seq (VS.region ?_));refine X.call true [] [] lower_translations_ok (fun x2=>?_);refine X.alloc 6 ?_;refine X.st ?_;refine NV ?_;refine K2 ?_;refine X.lenM (l:=x1) ?_;refine K1 ?_;refine NO ?_;refine VS.loop (fun jj:Int × List AInstr=>(⟨[(5,wP 0),(6,wP 1),(7,wP 2),(8,wP 3),(9,wP 4),(27,wM 5),(28,wI (x1.length:Int)),(29,wI jj.1)],[some (.bx 66 ((row_ALayout y1).map .v)),some (.bx 76 [aI 0,aI 0,aT row_AInstr ([]:List AInstr)]),some (.bx 60 ((row_AFunc (atD p1.Funcs i1)).map .v)),some (.bx 76 [aI ((atD p1.Funcs i1).Params),aI y1.Size,.mref 5]),some (.bx 90 [.clo 55 [],.clo 55 [],.clo 55 [],.clo 55 [],.clo 55 [],.clo 55 [],.clo 55 [],.clo 55 [],.clo 55 [],.clo 55 [],.clo 55 [],.clo 55 [],.clo 55 [],.clo 55 [],.clo 55 [],.clo 56 [],.clo 57 [],.clo 58 [],.clo 59 [],.clo 60 [],.clo 55 [],.clo 55 [],.clo 55 [],.clo 55 [],.clo 55 []]),some (.sl 62 5 false (jj.2.map row_AInstr))]⟩:St)) (j0:=(0,x1)) ((St.le_drop _ 0 (Nat.le_of_ble_eq_true rfl)).trans ((St.le_mvB _ 1 0 rfl rfl rfl rfl).trans ((St.le_mvB _ 2 1 rfl rfl rfl rfl).trans ((St.le_mvB _ 3 2 rfl rfl rfl rfl).trans ((St.le_mvB _ 5 3 rfl rfl rfl rfl).trans ((St.le_mvB _ 4 5 rfl rfl rfl rfl).trans ((St.le_mvB _ 6 4 rfl rfl rfl rfl).trans (LSB rfl rfl rfl rfl)))))))) ?_
 rintro n1 again1 ih_again1 ⟨x3,x4⟩;refine SR ?_;refine K1 ?_;refine NQ ?_
 refine VS.cond (fun h2=>?_) (fun h2=>?_)
 ·refine KS ?_
  refine VS.join (fun (x5:List AInstr)=>(⟨[(5,wP 0),(6,wP 1),(7,wP 2),(8,wP 3),(9,wP 4),(27,wM 5),(28,wI (x1.length:Int)),(29,wI x3)],[some (.bx 66 ((row_ALayout y1).map .v)),some (.bx 76 [aI 0,aI 0,aT row_AInstr ([]:List AInstr)]),some (.bx 60 ((row_AFunc (atD p1.Funcs i1)).map .v)),some (.bx 76 [aI ((atD p1.Funcs i1).Params),aI y1.Size,.mref 5]),some (.bx 90 [.clo 55 [],.clo 55 [],.clo 55 [],.clo 55 [],.clo 55 [],.clo 55 [],.clo 55 [],.clo 55 [],.clo 55 [],.clo 55 [],.clo 55 [],.clo 55 [],.clo 55 [],.clo 55 [],.clo 55 [],.clo 56 [],.clo 57 [],.clo 58 [],.clo 59 [],.clo 60 [],.clo 55 [],.clo 55 [],.clo 55 [],.clo 55 [],.clo 55 []]),some (.sl 62 5 false (x5.map row_AInstr))]⟩:St)) ?_ ?_
  ·rintro x5;refine VS.region ?_;refine X.ck fun h3=>?_;refine K1 ?_;refine X.nil ?_;exact GL ih_again1
  ·intro k1 ih_k1;refine VS.block (VS.seq (VS.region ?_));refine K1 ?_;refine X.idxM (l:=x4) (i:=x3) (fun h4=>?_);refine X.ld (i:=x3) h4 ?_;refine X.alloc 6 ?_;refine K1 ?_;refine X.st ?_;refine X.nil (ES.seq (VS.drawn ?_));refine K3 ?_;refine K2 ?_
   refine X.bif (fun h5=>?_) (fun h5=>?_)
   ·refine X.idxAE 0 h5 ?_;refine K3 ?_;refine K1 ?_;refine X.callI true [] [] (lower_same_ok _ _ _) (fun x6=>?_);refine X.idxM (l:=x4) (i:=x3) (fun h6=>?_);refine X.set (i:=x3) x6 h6 ?_;refine ND ?_;refine ES.blkN ?_;exact JL ih_k1
   ·refine X.bif (fun h7=>?_) (fun h7=>?_)
    ·refine X.idxAE 1 h7 ?_;refine K3 ?_;refine K1 ?_;refine X.callI true [] [] (lower_same_ok _ _ _) (fun x7=>?_);refine X.idxM (l:=x4) (i:=x3) (fun h8=>?_);refine X.set (i:=x3) x7 h8 ?_;refine ND ?_;refine ES.blkN ?_;exact JL ih_k1
    ·refine X.bif (fun h9=>?_) (fun h9=>?_)
     ·refine X.idxAE 2 h9 ?_;refine K3 ?_;refine K1 ?_;refine X.callI true [] [] (lower_same_ok _ _ _) (fun x8=>?_);refine X.idxM (l:=x4) (i:=x3) (fun h10=>?_);refine X.set (i:=x3) x8 h10 ?_;refine ND ?_;refine ES.blkN ?_;exact JL ih_k1
     ·refine X.bif (fun h11=>?_) (fun h11=>?_)
      ·refine X.idxAE 3 h11 ?_;refine K3 ?_;refine K1 ?_;refine X.callI true [] [] (lower_same_ok _ _ _) (fun x9=>?_);refine X.idxM (l:=x4) (i:=x3) (fun h12=>?_);refine X.set (i:=x3) x9 h12 ?_;refine ND ?_;refine ES.blkN ?_;exact JL ih_k1
      ·refine X.bif (fun h13=>?_) (fun h13=>?_)
       ·refine X.idxAE 4 h13 ?_;refine K3 ?_;refine K1 ?_;refine X.callI true [] [] (lower_same_ok _ _ _) (fun x10=>?_);refine X.idxM (l:=x4) (i:=x3) (fun h14=>?_);refine X.set (i:=x3) x10 h14 ?_;refine ND ?_;refine ES.blkN ?_;exact JL ih_k1
       ·refine X.bif (fun h15=>?_) (fun h15=>?_)
        ·refine X.idxAE 5 h15 ?_;refine K3 ?_;refine K1 ?_;refine X.callI true [] [] (lower_same_ok _ _ _) (fun x11=>?_);refine X.idxM (l:=x4) (i:=x3) (fun h16=>?_);refine X.set (i:=x3) x11 h16 ?_;refine ND ?_;refine ES.blkN ?_;exact JL ih_k1
        ·refine X.bif (fun h17=>?_) (fun h17=>?_)
         ·refine X.idxAE 6 h17 ?_;refine K3 ?_;refine K1 ?_;refine X.callI true [] [] (lower_same_ok _ _ _) (fun x12=>?_);refine X.idxM (l:=x4) (i:=x3) (fun h18=>?_);refine X.set (i:=x3) x12 h18 ?_;refine ND ?_;refine ES.blkN ?_;exact JL ih_k1
         ·refine X.bif (fun h19=>?_) (fun h19=>?_)
          ·refine X.idxAE 7 h19 ?_;refine K3 ?_;refine K1 ?_;refine X.callI true [] [] (lower_same_ok _ _ _) (fun x13=>?_);refine X.idxM (l:=x4) (i:=x3) (fun h20=>?_);refine X.set (i:=x3) x13 h20 ?_;refine ND ?_;refine ES.blkN ?_;exact JL ih_k1
          ·refine X.bif (fun h21=>?_) (fun h21=>?_)
           ·refine X.idxAE 8 h21 ?_;refine K3 ?_;refine K1 ?_;refine X.callI true [] [] (lower_same_ok _ _ _) (fun x14=>?_);refine X.idxM (l:=x4) (i:=x3) (fun h22=>?_);refine X.set (i:=x3) x14 h22 ?_;refine ND ?_;refine ES.blkN ?_;exact JL ih_k1
           ·refine X.bif (fun h23=>?_) (fun h23=>?_)
            ·refine X.idxAE 9 h23 ?_;refine K3 ?_;refine K1 ?_;refine X.callI true [] [] (lower_same_ok _ _ _) (fun x15=>?_);refine X.idxM (l:=x4) (i:=x3) (fun h24=>?_);refine X.set (i:=x3) x15 h24 ?_;refine ND ?_;refine ES.blkN ?_;exact JL ih_k1
            ·refine X.bif (fun h25=>?_) (fun h25=>?_)
             ·refine X.idxAE 10 h25 ?_;refine K3 ?_;refine K1 ?_;refine X.callI true [] [] (lower_same_ok _ _ _) (fun x16=>?_);refine X.idxM (l:=x4) (i:=x3) (fun h26=>?_);refine X.set (i:=x3) x16 h26 ?_;refine ND ?_;refine ES.blkN ?_;exact JL ih_k1
             ·refine X.bif (fun h27=>?_) (fun h27=>?_)
              ·refine X.idxAE 11 h27 ?_;refine K3 ?_;refine K1 ?_;refine X.callI true [] [] (lower_same_ok _ _ _) (fun x17=>?_);refine X.idxM (l:=x4) (i:=x3) (fun h28=>?_);refine X.set (i:=x3) x17 h28 ?_;refine ND ?_;refine ES.blkN ?_;exact JL ih_k1
              ·refine X.bif (fun h29=>?_) (fun h29=>?_)
               ·refine X.idxAE 12 h29 ?_;refine K3 ?_;refine K1 ?_;refine X.callI true [] [] (lower_same_ok _ _ _) (fun x18=>?_);refine X.idxM (l:=x4) (i:=x3) (fun h30=>?_);refine X.set (i:=x3) x18 h30 ?_;refine ND ?_;refine ES.blkN ?_;exact JL ih_k1
               ·refine X.bif (fun h31=>?_) (fun h31=>?_)
                ·refine X.idxAE 13 h31 ?_;refine K3 ?_;refine K1 ?_;refine X.callI true [] [] (lower_same_ok _ _ _) (fun x19=>?_);refine X.idxM (l:=x4) (i:=x3) (fun h32=>?_);refine X.set (i:=x3) x19 h32 ?_;refine ND ?_;refine ES.blkN ?_;exact JL ih_k1
                ·refine X.bif (fun h33=>?_) (fun h33=>?_)
                 ·refine X.idxAE 14 h33 ?_;refine K3 ?_;refine K1 ?_;refine X.callI true [] [] (lower_same_ok _ _ _) (fun x20=>?_);refine X.idxM (l:=x4) (i:=x3) (fun h34=>?_);refine X.set (i:=x3) x20 h34 ?_;refine ND ?_;refine ES.blkN ?_;exact JL ih_k1
                 ·refine X.bif (fun h35=>?_) (fun h35=>?_)
                  ·refine X.idxAE 15 h35 ?_;refine K3 ?_;refine K1 ?_;refine X.callI true [] [] (lower_translations_1_ok _ _ _) (fun x21=>?_);refine X.idxM (l:=x4) (i:=x3) (fun h36=>?_);refine X.set (i:=x3) x21 h36 ?_;refine ND ?_;refine ES.blkN ?_;exact JL ih_k1
                  ·refine X.bif (fun h37=>?_) (fun h37=>?_)
                   ·refine X.idxAE 16 h37 ?_;refine K3 ?_;refine K1 ?_;refine X.callI true [] [] (lower_translations_2_ok _ _ _) (fun x22=>?_);refine X.idxM (l:=x4) (i:=x3) (fun h38=>?_);refine X.set (i:=x3) x22 h38 ?_;refine ND ?_;refine ES.blkN ?_;exact JL ih_k1
                   ·refine X.bif (fun h39=>?_) (fun h39=>?_)
                    ·refine X.idxAE 17 h39 ?_;refine K3 ?_;refine K1 ?_;refine X.callI true [] [] (lower_translations_3_ok _ _ _) (fun x23=>?_);refine X.idxM (l:=x4) (i:=x3) (fun h40=>?_);refine X.set (i:=x3) x23 h40 ?_;refine ND ?_;refine ES.blkN ?_;exact JL ih_k1
                    ·refine X.bif (fun h41=>?_) (fun h41=>?_)
                     ·refine X.idxAE 18 h41 ?_;refine K3 ?_;refine K1 ?_;refine X.callI true [] [] (lower_translations_4_ok _ _ _) (fun x24=>?_);refine X.idxM (l:=x4) (i:=x3) (fun h42=>?_);refine X.set (i:=x3) x24 h42 ?_;refine ND ?_;refine ES.blkN ?_;exact JL ih_k1
                     ·refine X.bif (fun h43=>?_) (fun h43=>?_)
                      ·refine X.idxAE 19 h43 ?_;refine K3 ?_;refine K1 ?_;refine X.callI true [] [] (lower_translations_5_ok _ _ _) (fun x25=>?_);refine X.idxM (l:=x4) (i:=x3) (fun h44=>?_);refine X.set (i:=x3) x25 h44 ?_;refine ND ?_;refine ES.blkN ?_;exact JL ih_k1
                      ·refine X.bif (fun h45=>?_) (fun h45=>?_)
                       ·refine X.idxAE 20 h45 ?_;refine K3 ?_;refine K1 ?_;refine X.callI true [] [] (lower_same_ok _ _ _) (fun x26=>?_);refine X.idxM (l:=x4) (i:=x3) (fun h46=>?_);refine X.set (i:=x3) x26 h46 ?_;refine ND ?_;refine ES.blkN ?_;exact JL ih_k1
                       ·refine X.bif (fun h47=>?_) (fun h47=>?_)
                        ·refine X.idxAE 21 h47 ?_;refine K3 ?_;refine K1 ?_;refine X.callI true [] [] (lower_same_ok _ _ _) (fun x27=>?_);refine X.idxM (l:=x4) (i:=x3) (fun h48=>?_);refine X.set (i:=x3) x27 h48 ?_;refine ND ?_;refine ES.blkN ?_;exact JL ih_k1
                        ·refine X.bif (fun h49=>?_) (fun h49=>?_)
                         ·refine X.idxAE 22 h49 ?_;refine K3 ?_;refine K1 ?_;refine X.callI true [] [] (lower_same_ok _ _ _) (fun x28=>?_);refine X.idxM (l:=x4) (i:=x3) (fun h50=>?_);refine X.set (i:=x3) x28 h50 ?_;refine ND ?_;refine ES.blkN ?_;exact JL ih_k1
                         ·refine X.bif (fun h51=>?_) (fun h51=>?_)
                          ·refine X.idxAE 23 h51 ?_;refine K3 ?_;refine K1 ?_;refine X.callI true [] [] (lower_same_ok _ _ _) (fun x29=>?_);refine X.idxM (l:=x4) (i:=x3) (fun h52=>?_);refine X.set (i:=x3) x29 h52 ?_;refine ND ?_;refine ES.blkN ?_;exact JL ih_k1
                          ·refine X.chk fun h53=>?_;refine X.idxAE 24 h53 ?_;refine K3 ?_;refine K1 ?_;refine X.callI true [] [] (lower_same_ok _ _ _) (fun x30=>?_);refine X.idxM (l:=x4) (i:=x3) (fun h54=>?_);refine X.set (i:=x3) x30 h54 ?_;refine ND ?_;refine ES.blkN ?_;exact JL ih_k1
 ·refine XE ?_;refine K1 ?_;refine X.st ?_;refine NT ?_;exact ES.ret (Ret.weak (St.le_tcell _ 1 2 5 rfl rfl rfl rfl) (Ret.clo [.agg ((row_AFrame (⟨(atD p1.Funcs i1).Params,y1.Size,x4⟩:AFrame)).map .v)] ⟨⟨_,_,_,_,_,_,rfl,rfl,fits rfl,rfl⟩,trivial⟩ trivial))
theorem lower_Target_ok (p1:AProgram) (align1:Int) (l1:List ALayout):∀r:ATarget × Int,lower_Target p1 align1 l1 r→FC 10 [] [.agg ((row_AProgram p1).map .v),cI align1,.c (.v (.tree (l1.map row_ALayout)))] (.tup [.agg ((row_ATarget r.1).map .v),cI r.2]) [] []:=by
 refine fnS 45 ?_;unfold lower_Target;refine SR ?_;refine X.boxR 0 ?_;refine X.allocR 1 ?_;refine K1 ?_;refine NV ?_;refine K1 ?_;refine X.lenT ?_;refine K2 ?_;refine X.lenT ?_;refine K1 ?_;refine NS ?_
 refine VS.cond (fun h1=>?_) (fun h1=>?_)
 ·refine SR ?_;refine X.buildR ?_;refine X.stR ?_;refine K1 ?_;refine NU ?_;exact ES.ret (Ret.weak (St.le_ncell _ 1 1 rfl rfl) (Ret.clo [.agg ((row_ATarget (⟨0,([]:List AFrame)⟩:ATarget)).map .v),.c (aI 13)] ⟨⟨_,_,_,_,_,_,rfl,rfl,fits rfl,rfl⟩,rfl,trivial⟩ trivial))
 ·refine KR ?_;refine K1 ?_;refine X.buildR ?_;refine X.allocR 2 ?_;refine X.stR ?_;refine NV ?_;refine K1 ?_;refine X.lenT ?_;refine K1 ?_;refine NO ?_;refine VS.loop (fun jj:Int × List AFrame=>(⟨[(1,wI align1),(3,wP 0),(6,wP 1),(8,wP 2),(20,wT row_ALayout l1),(21,wI (l1.length:Int)),(22,wI jj.1)],[some (.bx 28 ((row_AProgram p1).map .v)),some (.bx 37 [aI 0,.v .nil]),some (.bx 37 [aI align1,.mref 3]),some (.sl 76 3 false (jj.2.map row_AFrame))]⟩:St)) (j0:=(0,([]:List AFrame))) ((St.le_keep _ [1,3,6,8,20,21,22]).trans ((St.le_adoptC _ 2 1 3 76 3 rfl rfl rfl rfl).trans (LSB rfl rfl rfl rfl))) ?_;rintro n1 again1 ih_again1 ⟨x1,own1⟩;refine SR ?_;refine K1 ?_;refine NQ ?_
  refine VS.cond (fun h2=>?_) (fun h2=>?_)
  ·refine KW ?_;refine K1 ?_;refine X.idxT (fun h3=>?_);refine K1 ?_;refine X.allocR 4 ?_;refine K1 ?_;refine X.stR ?_;refine NV ?_;refine K3 ?_;refine K1 ?_;refine X.call true [] [] (layout_Shape_ok _ _ _ _) (fun x2=>?_);refine K1 ?_;refine NS ?_
   refine VS.cond (fun h4=>?_) (fun h4=>?_)
   ·refine SR ?_;refine X.buildR ?_;refine X.stR ?_;refine K1 ?_;refine X.nil (ES.seq (VS.ret (ES.thnR (ES.blkR (ES.thnR (ES.thnR (ES.blkR (ES.thnR ?_))))))));exact ES.ret (Ret.weak (St.le_ncell _ 1 1 rfl rfl) (Ret.clo [.agg ((row_ATarget (⟨0,([]:List AFrame)⟩:ATarget)).map .v),.c (aI 13)] ⟨⟨_,_,_,_,_,_,rfl,rfl,fits rfl,rfl⟩,rfl,trivial⟩ trivial))
   ·refine VS.skip (ES.seq (VS.drawn ?_));refine K3 ?_;refine K2 ?_;refine X.call true [] [] (lower_Frame_ok _ _ _) (fun x3=>?_);refine X.bs 5 ([x3]:List AFrame) row_AFrame ?_;refine X.appMM 6 (l:=own1) (l':=([x3]:List AFrame)) (fun h5=>?_);refine K1 ?_;refine X.stR ?_;refine ND ?_;refine ES.blkN (ES.seq (VS.region ?_));refine X.ck fun h6=>?_;refine K1 ?_;refine X.nil ?_;exact ES.go ih_again1 _ ((St.le_mvB _ 6 3 rfl rfl rfl rfl).trans (LSB rfl rfl rfl rfl))
  ·refine XE ?_;refine K1 ?_;refine X.stR ?_;refine K1 ?_;refine NT ?_;exact ES.ret (Ret.weak (St.le_tcell _ 1 1 3 rfl rfl rfl rfl) (Ret.clo [.agg ((row_ATarget (⟨align1,own1⟩:ATarget)).map .v),.c (aI 0)] ⟨⟨_,_,_,_,_,_,rfl,rfl,fits rfl,rfl⟩,rfl,trivial⟩ trivial))
theorem draw_Input_ok (c1:DCodes):∀r:List Int × DCodes,draw_Input c1 r→FC 11 [(68,row_DCodes c1)] [.c (.ptr 0 0 0)] (.w (.c (.v (.tree (r.1.map uRow))))) [] [(68,row_DCodes r.2)]:=by
 refine fnS 17 ?_;unfold draw_Input;refine SR ?_;refine K1 ?_;refine NR ?_;refine K1 ?_;refine NV ?_;refine K1 ?_;refine X.call true [] [0] (draw_Next_ok _ _) (fun x1=>?_);refine K1 ?_;refine NO ?_;refine VS.loop (fun jj:Int × DCodes × List Int=>(⟨[(0,wP 0),(3,wM 1),(4,wI jj.1)],[some (.bx 68 ((row_DCodes jj.2.1).map .v)),some (.sl 42 1 false (jj.2.2.map uRow))]⟩:St)) (j0:=(x1.1,x1.2,([]:List Int))) ((St.le_keep _ [0,3,4]).trans ((St.le_adopt _ 3 1 42 1 rfl rfl).trans (LSB rfl rfl rfl rfl))) ?_;rintro n2 again1 ih_again1 ⟨n1,c2,l1⟩;refine SS ?_;refine K2 ?_;refine NS ?_
 refine VS.cond (fun h1=>?_) (fun h1=>?_)
 ·refine VS.skip (ES.seq (VS.seq (VS.block (VS.region ?_))));refine K2 ?_;refine X.call true [] [0] (draw_Word_ok _) (fun x2=>?_);refine X.bs 2 ([x2.1]:List Int) uRow ?_;refine X.appMM 3 (l:=l1) (l':=([x2.1]:List Int)) (fun h2=>?_);refine K1 ?_;refine NB ?_;refine K1 ?_;refine X.ck fun h3=>?_;refine K1 ?_;refine X.nil ?_;exact ES.go ih_again1 _ ((St.le_mvB _ 3 1 rfl rfl rfl rfl).trans (LSB rfl rfl rfl rfl))
 ·refine XE ?_;refine K2 ?_;refine NT ?_;exact ES.ret (Ret.weak (St.le_tree _ 2 1 rfl rfl) (Ret.clo [.c (aT uRow l1)] ⟨rfl,trivial⟩ ⟨rfl,trivial⟩))
theorem r05_within_ok (k1:Int) (n1:Int):∀r:Bool,r05_within k1 n1 r→FC 97 [] [cI k1,cI n1] (.w (.c (.v (.bool r)))) [] []:=by
 refine fnS 12 ?_;unfold r05_within;refine SR ?_;refine K1 ?_;refine NR ?_;refine K3 ?_
 refine X.bif (fun h1=>?_) (fun h1=>?_)
 ·(iterate 3 refine X.gY h1 ?_;refine K1 ?_);refine X.pT h1 ?_;refine K1 ?_;refine NT ?_;exact ES.ret R1
 ·(iterate 3 refine X.gN h1 ?_);refine X.pF h1 ?_;refine K1 ?_;refine NT ?_;exact ES.ret R1
end Go.Proofs.YtgbkhjllbgmdcaaGreat.Q
