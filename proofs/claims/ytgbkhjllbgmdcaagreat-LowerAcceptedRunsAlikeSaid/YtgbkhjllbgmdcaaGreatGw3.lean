/- Walks of functions: the code does what the lifted text says (written by a program). -/
import Derived.Test.YtgbkhjllbgmdcaaGreatLR
import Derived.Test.YtgbkhjllbgmdcaaGreatGw2
set_option linter.unusedVariables false
set_option linter.unusedSimpArgs false
set_option maxRecDepth 8000
namespace Go.Proofs.YtgbkhjllbgmdcaaGreat.Q
open Go.RowKit
set_option maxHeartbeats 4000000
theorem draw_function_ok (c1:DCodes) (i1:Int) (params1:List Int) (most1:Int):∀r:AFunc × DCodes,draw_function c1 i1 params1 most1 r→FC 18 [(68,row_DCodes c1)] [.c (.ptr 0 0 0),cI i1,.c (.v (.tree (params1.map iRow))),cI most1] (.w (.agg ((row_AFunc r.1).map .v))) [] [(68,row_DCodes r.2)]:=by
 refine fnS 150 ?_;unfold draw_function;refine SR ?_;refine X.alloc 1 ?_;refine X.nil (ES.seq (VS.seq (VS.drawn ?_)));refine K2 ?_;refine X.idxT (fun h1=>?_);refine K2 ?_;refine X.call true [] [0] (draw_Slots_ok _ _) (fun x1=>?_);refine X.build ?_;refine X.alloc 2 ?_;refine X.st ?_;refine ND ?_;refine ES.seq (VS.seq (VS.region ?_));refine K1 ?_;refine NV ?_;refine K1 ?_;refine NO ?_;refine VS.loop (fun jj:Int × DCodes × List AInstr=>(⟨[(0,wP 0),(1,wI i1),(2,wT iRow params1),(3,wI most1),(8,wP 1),(9,wP 2),(10,wM 3),(11,wI jj.1)],[some (.bx 68 ((row_DCodes jj.2.1).map .v)),some (.bx 60 [aI 0,aT row_ASlot ([]:List ASlot),aT row_AInstr ([]:List AInstr)]),some (.bx 60 [aI (atD params1 i1),aT row_ASlot x1.1,aT row_AInstr ([]:List AInstr)]),some (.sl 62 5 false (jj.2.2.map row_AInstr))]⟩:St)) (j0:=(0,x1.2,([]:List AInstr))) ((St.le_keep _ [0,1,2,3,8,9,10,11]).trans ((St.le_adopt _ 10 3 62 5 rfl rfl).trans (LSB rfl rfl rfl rfl))) ?_
 rintro n1 again1 ih_again1 ⟨s1,c2,code1⟩;refine SS ?_;refine K3 ?_;refine X.lenT ?_;refine K1 ?_;refine NS ?_
 refine VS.cond (fun h2=>?_) (fun h2=>?_)
 ·refine KW ?_;refine K1 ?_;refine X.call true [] [0] (draw_Next_ok _ _) (fun x2=>?_);refine K1 ?_;refine NS ?_
  refine VS.cond (fun h3=>?_) (fun h3=>?_)
  ·refine VS.region ?_;refine K3 ?_;refine X.call true [] [0] (draw_Next_ok _ _) (fun x3=>?_);refine X.build ?_;refine X.bs 4 ([(⟨16,s1,x3.1,0,0⟩:AInstr)]:List AInstr) row_AInstr ?_;refine X.appMM 5 (l:=code1) (l':=([(⟨16,s1,x3.1,0,0⟩:AInstr)]:List AInstr)) (fun h4=>?_);refine K1 ?_;refine NB ?_;refine K1 ?_;refine X.ck fun h5=>?_;refine K1 ?_;refine X.nil ?_;exact ES.go ih_again1 _ ((St.le_mvB _ 5 3 rfl rfl rfl rfl).trans (LSB rfl rfl rfl rfl))
  ·refine KB ?_;refine K1 ?_;refine X.ck fun h6=>?_;refine K1 ?_;refine X.nil ?_;exact GL ih_again1
 ·refine VS.exit (ES.thnE (ES.thnE (ES.blkE (ES.seq (VS.seq (VS.seq (VS.region ?_)))))));refine K2 ?_;refine X.ck fun h7=>?_;refine X.call true [] [0] (draw_Next_ok _ _) (fun x4=>?_);refine K1 ?_;refine NO ?_;refine VS.loop (fun jj:Int × DCodes × List AInstr=>(⟨[(0,wP 0),(1,wI i1),(2,wT iRow params1),(8,wP 1),(9,wP 2),(10,wM 3),(12,wI jj.1)],[some (.bx 68 ((row_DCodes jj.2.1).map .v)),some (.bx 60 [aI 0,aT row_ASlot ([]:List ASlot),aT row_AInstr ([]:List AInstr)]),some (.bx 60 [aI (atD params1 i1),aT row_ASlot x1.1,aT row_AInstr ([]:List AInstr)]),some (.sl 62 5 false (jj.2.2.map row_AInstr))]⟩:St)) (j0:=(x4.1,x4.2,code1)) (LSB rfl rfl rfl rfl) ?_;rintro n3 again2 ih_again2 ⟨n2,c3,code2⟩;refine SS ?_;refine K2 ?_;refine NS ?_
  refine VS.cond (fun h8=>?_) (fun h8=>?_)
  ·refine KW ?_;refine K3 ?_;refine K2 ?_;refine X.call true [] [0] (draw_body_ok _ _ _ _) (fun x5=>?_);refine X.appMT 4 (l:=code2) (l':=x5.1) (fun h9=>?_);refine K1 ?_;refine NR ?_;refine K1 ?_;refine X.call true [] [0] (draw_Next_ok _ _) (fun x6=>?_);refine X.nil (ES.seq (VS.block (VS.seq (VS.region ?_))));refine K2 ?_;refine NS ?_
   refine VS.cond (fun h10=>?_) (fun h10=>?_)
   ·refine VS.region ?_;refine K2 ?_;refine X.call true [] [0] (draw_Next_ok _ _) (fun x7=>?_);refine X.build ?_;refine X.bs 5 ([(⟨21,x7.1,(-1),0,0⟩:AInstr)]:List AInstr) row_AInstr ?_;refine X.appMM 6 (l:=(code2++x5.1)) (l':=([(⟨21,x7.1,(-1),0,0⟩:AInstr)]:List AInstr)) (fun h11=>?_);refine K1 ?_;refine X.nil (ES.blkN (ES.blkN (ES.seq (VS.region ?_))));refine K1 ?_;refine X.ck fun h12=>?_;refine K1 ?_;refine X.nil ?_;exact ES.go ih_again2 _ ((St.le_mvB _ 6 3 rfl rfl rfl rfl).trans (LSB rfl rfl rfl rfl))
   ·refine SR ?_;refine K2 ?_;refine NS ?_
    refine VS.cond (fun h13=>?_) (fun h13=>?_)
    ·refine SR ?_;refine K1 ?_;refine X.call true [] [0] (draw_Next_ok _ _) (fun x8=>?_);refine K1 ?_;refine NS ?_
     refine VS.cond (fun h14=>?_) (fun h14=>?_)
     ·refine VS.region ?_;refine K1 ?_;refine X.build ?_;refine X.bs 5 ([(⟨20,(-1),0,0,0⟩:AInstr)]:List AInstr) row_AInstr ?_;refine X.appMM 6 (l:=(code2++x5.1)) (l':=([(⟨20,(-1),0,0,0⟩:AInstr)]:List AInstr)) (fun h15=>?_);refine K1 ?_;refine X.nil (ES.blkN (ES.blkN (ES.seq (VS.region ?_))));refine K1 ?_;refine X.ck fun h16=>?_;refine K1 ?_;refine X.nil ?_;exact ES.go ih_again2 _ ((St.le_mvB _ 6 3 rfl rfl rfl rfl).trans (LSB rfl rfl rfl rfl))
     ·refine VS.skip (ES.blkN (ES.blkN (ES.seq (VS.region ?_))));refine K1 ?_;refine X.ck fun h17=>?_;refine K1 ?_;refine X.nil ?_;exact ES.go ih_again2 _ ((St.le_mvB _ 4 3 rfl rfl rfl rfl).trans (LSB rfl rfl rfl rfl))
    ·refine VS.skip (ES.blkN (ES.blkN (ES.seq (VS.region ?_))));refine K1 ?_;refine X.ck fun h18=>?_;refine K1 ?_;refine X.nil ?_;exact ES.go ih_again2 _ ((St.le_mvB _ 4 3 rfl rfl rfl rfl).trans (LSB rfl rfl rfl rfl))
  ·refine XE ?_;refine X.build ?_;refine X.alloc 4 ?_;refine X.st ?_;refine NS ?_
   refine VS.join (fun jj:DCodes × Int × Int=>(⟨[(0,wP 0),(8,wP 1),(9,wP 2),(10,wM 3),(13,wP 4)],[some (.bx 68 ((row_DCodes jj.1).map .v)),some (.bx 60 [aI 0,aT row_ASlot ([]:List ASlot),aT row_AInstr ([]:List AInstr)]),some (.bx 60 [aI (atD params1 i1),aT row_ASlot x1.1,aT row_AInstr ([]:List AInstr)]),some (.sl 62 5 false (code2.map row_AInstr)),some (.bx 62 [aI jj.2.1,aI 0,aI 0,aI 0,aU jj.2.2])]⟩:St)) ?_ ?_
   ·rintro ⟨c4,Op1,Imm1⟩;refine SR ?_;refine K2 ?_;refine X.bs 5 ([(⟨Op1,0,0,0,Imm1⟩:AInstr)]:List AInstr) row_AInstr ?_;refine X.appMM 6 (l:=code2) (l':=([(⟨Op1,0,0,0,Imm1⟩:AInstr)]:List AInstr)) (fun h19=>?_);refine K1 ?_;refine NV ?_;refine K1 ?_;refine NO ?_;refine VS.loop (fun jj:Int × DCodes × List AInstr=>(⟨[(0,wP 0),(8,wP 1),(9,wP 2),(10,wM 3),(14,wI jj.1)],[some (.bx 68 ((row_DCodes jj.2.1).map .v)),some (.bx 60 [aI 0,aT row_ASlot ([]:List ASlot),aT row_AInstr ([]:List AInstr)]),some (.bx 60 [aI (atD params1 i1),aT row_ASlot x1.1,aT row_AInstr ([]:List AInstr)]),some (.sl 62 5 false (jj.2.2.map row_AInstr))]⟩:St)) (j0:=(0,c4,(code2++([(⟨Op1,0,0,0,Imm1⟩:AInstr)]:List AInstr)))) ((St.le_mvB _ 6 3 rfl rfl rfl rfl).trans (LSB rfl rfl rfl rfl)) ?_;rintro n4 again3 ih_again3 ⟨k2,c5,code3⟩;refine SS ?_;refine K2 ?_;refine X.lenM (l:=code3) ?_;refine K1 ?_
    refine NS ?_
    refine VS.cond (fun h20=>?_) (fun h20=>?_)
    ·refine KW ?_;refine K2 ?_;refine X.call true [] [0] (draw_Next_ok _ _) (fun x9=>?_);refine X.ck fun h21=>?_;refine X.ck fun h22=>?_;refine K1 ?_;refine NS ?_
     refine VS.join (fun (to1:Int)=>(⟨[(0,wP 0),(8,wP 1),(9,wP 2),(10,wM 3),(14,wI k2),(15,wI to1)],[some (.bx 68 ((row_DCodes x9.2).map .v)),some (.bx 60 [aI 0,aT row_ASlot ([]:List ASlot),aT row_AInstr ([]:List AInstr)]),some (.bx 60 [aI (atD params1 i1),aT row_ASlot x1.1,aT row_AInstr ([]:List AInstr)]),some (.sl 62 5 false (code3.map row_AInstr))]⟩:St)) ?_ ?_
     ·rintro to1;refine VS.block (VS.seq (VS.region ?_));refine K2 ?_;refine X.idxM (l:=code3) (i:=k2) (fun h23=>?_);refine K1 ?_;refine X.ld (i:=k2) h23 ?_;refine K2 ?_
      refine X.bif (fun h24=>?_) (fun h24=>?_)
      ·(iterate 2 refine X.gY h24 ?_;refine K1 ?_);refine X.gY h24 ?_;refine X.idxM (l:=code3) (i:=k2) (fun h25=>?_);refine X.gY h24 ?_;refine K1 ?_;refine X.gY h24 ?_;refine X.ld (i:=k2) h25 ?_;refine X.gY h24 ?_;refine K1 ?_;refine X.pT h24 ?_;refine K1 ?_;refine NS ?_
       refine VS.cond (fun h26=>?_) (fun h26=>?_)
       ·refine VS.region ?_;refine K3 ?_;refine X.idxM (l:=code3) (i:=k2) (fun h27=>?_);refine K1 ?_;refine X.set (i:=k2) (⟨(atD code3 k2).Op,to1,(atD code3 k2).B,(atD code3 k2).C,(atD code3 k2).Imm⟩:AInstr) h27 ?_;refine X.nil (ES.blkN (ES.blkN (ES.seq (VS.region ?_))));refine K1 ?_;refine X.ck fun h28=>?_;refine K1 ?_;refine X.nil ?_;exact GL ih_again3
       ·refine SR ?_;refine K2 ?_;refine X.idxM (l:=code3) (i:=k2) (fun h29=>?_);refine K1 ?_;refine X.ld (i:=k2) h29 ?_;refine K2 ?_
        refine X.bif (fun h30=>?_) (fun h30=>?_)
        ·(iterate 2 refine X.gY h30 ?_;refine K1 ?_);refine X.gY h30 ?_;refine X.idxM (l:=code3) (i:=k2) (fun h31=>?_);refine X.gY h30 ?_;refine K1 ?_;refine X.gY h30 ?_;refine X.ld (i:=k2) h31 ?_;refine X.gY h30 ?_;refine K1 ?_;refine X.pT h30 ?_;refine K1 ?_;refine NS ?_
         refine VS.cond (fun h32=>?_) (fun h32=>?_)
         ·refine VS.region ?_;refine K3 ?_;refine X.idxM (l:=code3) (i:=k2) (fun h33=>?_);refine K1 ?_;refine X.set (i:=k2) (⟨(atD code3 k2).Op,(atD code3 k2).A,to1,(atD code3 k2).C,(atD code3 k2).Imm⟩:AInstr) h33 ?_;refine X.nil (ES.blkN (ES.blkN (ES.seq (VS.region ?_))));refine K1 ?_;refine X.ck fun h34=>?_;refine K1 ?_;refine X.nil ?_;exact GL ih_again3
         ·refine VS.skip (ES.blkN (ES.blkN (ES.seq (VS.region ?_))));refine K1 ?_;refine X.ck fun h35=>?_;refine K1 ?_;refine X.nil ?_;exact GL ih_again3
        ·(iterate 6 refine X.gN h30 ?_);refine X.pF h30 ?_;refine K1 ?_;refine NS ?_;refine VS.condF rfl ?_;refine VS.skip (ES.blkN (ES.blkN (ES.seq (VS.region ?_))));refine K1 ?_;refine X.ck fun h36=>?_;refine K1 ?_;refine X.nil ?_;exact GL ih_again3
      ·(iterate 6 refine X.gN h24 ?_);refine X.pF h24 ?_;refine K1 ?_;refine NS ?_;refine VS.condF rfl ?_;refine SR ?_;refine K2 ?_;refine X.idxM (l:=code3) (i:=k2) (fun h37=>?_);refine K1 ?_;refine X.ld (i:=k2) h37 ?_;refine K2 ?_
       refine X.bif (fun h38=>?_) (fun h38=>?_)
       ·(iterate 2 refine X.gY h38 ?_;refine K1 ?_);refine X.gY h38 ?_;refine X.idxM (l:=code3) (i:=k2) (fun h39=>?_);refine X.gY h38 ?_;refine K1 ?_;refine X.gY h38 ?_;refine X.ld (i:=k2) h39 ?_;refine X.gY h38 ?_;refine K1 ?_;refine X.pT h38 ?_;refine K1 ?_;refine NS ?_
        refine VS.cond (fun h40=>?_) (fun h40=>?_)
        ·refine VS.region ?_;refine K3 ?_;refine X.idxM (l:=code3) (i:=k2) (fun h41=>?_);refine K1 ?_;refine X.set (i:=k2) (⟨(atD code3 k2).Op,(atD code3 k2).A,to1,(atD code3 k2).C,(atD code3 k2).Imm⟩:AInstr) h41 ?_;refine X.nil (ES.blkN (ES.blkN (ES.seq (VS.region ?_))));refine K1 ?_;refine X.ck fun h42=>?_;refine K1 ?_;refine X.nil ?_;exact GL ih_again3
        ·refine VS.skip (ES.blkN (ES.blkN (ES.seq (VS.region ?_))));refine K1 ?_;refine X.ck fun h43=>?_;refine K1 ?_;refine X.nil ?_;exact GL ih_again3
       ·(iterate 6 refine X.gN h38 ?_);refine X.pF h38 ?_;refine K1 ?_;refine NS ?_;refine VS.condF rfl ?_;refine VS.skip (ES.blkN (ES.blkN (ES.seq (VS.region ?_))));refine K1 ?_;refine X.ck fun h44=>?_;refine K1 ?_;refine X.nil ?_;exact GL ih_again3
     ·intro k3 ih_k3;refine SR ?_;refine K3 ?_
      refine X.bif (fun h45=>?_) (fun h45=>?_)
      ·(iterate 4 refine X.gN h45 ?_);refine X.pT h45 ?_;refine NS ?_;refine VS.condT rfl ?_;refine VS.region ?_;refine K1 ?_;refine X.lenM (l:=code3) ?_;refine X.ck fun h46=>?_;refine K1 ?_;refine X.nil ?_;exact JL ih_k3
      ·(iterate 2 refine X.gY h45 ?_;refine K1 ?_);refine X.gY h45 ?_;refine X.lenM (l:=code3) ?_;refine X.gY h45 ?_;refine K1 ?_;refine X.pF h45 ?_;refine NS ?_
       refine VS.cond (fun h47=>?_) (fun h47=>?_)
       ·refine VS.region ?_;refine K1 ?_;refine X.lenM (l:=code3) ?_;refine X.ck fun h48=>?_;refine K1 ?_;refine X.nil ?_;exact JL ih_k3
       ·refine VS.skip ?_;exact JL ih_k3
    ·refine XE ?_;refine K2 ?_;refine X.st ?_;refine NR ?_;refine K1 ?_;refine X.st ?_;refine NT ?_;exact ES.ret (Ret.weak (St.le_tcell _ 1 2 3 rfl rfl rfl rfl) (Ret.clo [.agg ((row_AFunc (⟨(atD params1 i1),x1.1,code3⟩:AFunc)).map .v)] ⟨⟨_,_,_,_,_,_,rfl,rfl,fits rfl,rfl⟩,trivial⟩ ⟨rfl,trivial⟩))
   ·intro k1 ih_k1;refine SR ?_;refine K1 ?_;refine X.call true [] [0] (draw_Next_ok _ _) (fun x10=>?_);refine K1 ?_;refine NS ?_
    refine VS.cond (fun h49=>?_) (fun h49=>?_)
    ·refine VS.region ?_;refine K1 ?_;refine X.call true [] [0] (draw_Word_ok _) (fun x11=>?_);refine X.build ?_;refine X.st ?_;refine X.nil ?_;exact JL ih_k1
    ·refine VS.skip ?_;exact JL ih_k1
theorem draw_Program_ok (c1:DCodes) (funcs1:Int) (most1:Int):∀r:AProgram × DCodes,draw_Program c1 funcs1 most1 r→FC 7 [(68,row_DCodes c1)] [.c (.ptr 0 0 0),cI funcs1,cI most1] (.w (.agg ((row_AProgram r.1).map .v))) [] [(68,row_DCodes r.2)]:=by
 refine fnS 44 ?_;unfold draw_Program;refine SR ?_;refine X.alloc 1 ?_;refine NR ?_;refine X.bs 2 ([0]:List Int) iRow ?_;refine K1 ?_;refine NV ?_;refine K2 ?_;refine X.call true [] [0] (draw_Next_ok _ _) (fun x1=>?_);refine K1 ?_;refine NO ?_;refine VS.loop (fun jj:Int × DCodes × List Int=>(⟨[(0,wP 0),(2,wI most1),(6,wP 1),(7,wM 2),(8,wI jj.1)],[some (.bx 68 ((row_DCodes jj.2.1).map .v)),some (.bx 28 [aT row_AFunc ([]:List AFunc)]),some (.sl 3 1 false (jj.2.2.map iRow))]⟩:St)) (j0:=(x1.1,x1.2,([0]:List Int))) (LSB rfl rfl rfl rfl) ?_;rintro n2 again1 ih_again1 ⟨n1,c2,params1⟩;refine SS ?_;refine K2 ?_;refine NS ?_
 refine VS.cond (fun h1=>?_) (fun h1=>?_)
 ·refine VS.skip (ES.seq (VS.seq (VS.block (VS.region ?_))));refine K2 ?_;refine X.call true [] [0] (draw_Next_ok _ _) (fun x2=>?_);refine X.bs 3 ([x2.1]:List Int) iRow ?_;refine X.appMM 4 (l:=params1) (l':=([x2.1]:List Int)) (fun h2=>?_);refine K1 ?_;refine NB ?_;refine K1 ?_;refine X.ck fun h3=>?_;refine K1 ?_;refine X.nil ?_;exact ES.go ih_again1 _ ((St.le_mvB _ 4 2 rfl rfl rfl rfl).trans (LSB rfl rfl rfl rfl))
 ·refine XE ?_;refine X.alloc 3 ?_;refine NV ?_;refine K1 ?_;refine NO ?_;refine VS.loop (fun jj:List Int × Int × DCodes × List AFunc=>(⟨[(0,wP 0),(2,wI most1),(6,wP 1),(7,wT iRow jj.1),(9,wP 2),(10,wI jj.2.1)],[some (.bx 68 ((row_DCodes jj.2.2.1).map .v)),some (.bx 28 [aT row_AFunc ([]:List AFunc)]),some (.bx 28 [aT row_AFunc jj.2.2.2])]⟩:St)) (j0:=(params1,0,c2,([]:List AFunc))) ((St.le_tree _ 7 2 rfl rfl).trans ((St.le_drop _ 2 (Nat.le_of_ble_eq_true rfl)).trans ((St.le_mvB _ 3 2 rfl rfl rfl rfl).trans (LSB rfl rfl rfl rfl)))) ?_;rintro n3 again2 ih_again2 ⟨params2,i1,c3,Funcs1⟩;refine SS ?_;refine K2 ?_;refine X.lenT ?_;refine K1 ?_;refine NS ?_
  refine VS.cond (fun h4=>?_) (fun h4=>?_)
  ·refine KW ?_;refine K2 ?_;refine X.appNT 3 (l':=Funcs1) (fun h5=>?_);refine K3 ?_;refine K1 ?_;refine X.call true [] [0] (draw_function_ok _ _ _ _) (fun x3=>?_);refine X.bs 4 ([x3.1]:List AFunc) row_AFunc ?_;refine X.appMM 5 (l:=Funcs1) (l':=([x3.1]:List AFunc)) (fun h6=>?_);refine K1 ?_;refine NG ?_;refine K2 ?_;refine X.st ?_;refine NB ?_;refine K1 ?_;refine X.ck fun h7=>?_;refine K1 ?_;refine X.nil ?_;exact ES.go ih_again2 _ ((St.le_tcell _ 2 0 5 rfl rfl rfl rfl).trans (LSB rfl rfl rfl rfl))
  ·refine XE ?_;refine K1 ?_;refine X.st ?_;refine NT ?_;exact ES.ret (Ret.clo [_] ⟨⟨_,_,_,_,_,_,rfl,rfl,fits rfl,rfl⟩,trivial⟩ ⟨rfl,trivial⟩)
theorem r02_Size_ok (n1:Int):∀r:Bool,r02_Size n1 r→FC 63 [] [cI n1] (.w (.c (.v (.bool r)))) [] []:=by
 refine fnS 21 ?_;unfold r02_Size;refine SR ?_;refine K1 ?_;refine NR ?_;refine K3 ?_
 refine X.bif (fun h1=>?_) (fun h1=>?_)
 ·(iterate 2 refine X.gN h1 ?_);refine X.pT h1 ?_;(iterate 3 refine K1 ?_;refine X.gN rfl ?_;refine X.gN rfl ?_;refine X.pT rfl ?_);refine K1 ?_;refine NT ?_;exact ES.ret R1
 ·(iterate 2 refine X.gY h1 ?_;refine K1 ?_);refine X.pF h1 ?_;refine K1 ?_
  refine X.bif (fun h2=>?_) (fun h2=>?_)
  ·(iterate 2 refine X.gN h2 ?_);refine X.pT h2 ?_;(iterate 2 refine K1 ?_;refine X.gN rfl ?_;refine X.gN rfl ?_;refine X.pT rfl ?_);refine K1 ?_;refine NT ?_;exact ES.ret R1
  ·(iterate 2 refine X.gY h2 ?_;refine K1 ?_);refine X.pF h2 ?_;refine K1 ?_
   refine X.bif (fun h3=>?_) (fun h3=>?_)
   ·(iterate 2 refine X.gN h3 ?_);refine X.pT h3 ?_;refine K1 ?_;(iterate 2 refine X.gN rfl ?_);refine X.pT rfl ?_;refine K1 ?_;refine NT ?_;exact ES.ret R1
   ·(iterate 2 refine X.gY h3 ?_;refine K1 ?_);refine X.pF h3 ?_;refine K1 ?_
    refine X.bif (fun h4=>?_) (fun h4=>?_)
    ·(iterate 2 refine X.gN h4 ?_);refine X.pT h4 ?_;refine K1 ?_;refine NT ?_;exact ES.ret R1
    ·(iterate 2 refine X.gY h4 ?_;refine K1 ?_);refine X.pF h4 ?_;refine K1 ?_;refine NT ?_;exact ES.ret R1
theorem r03_Power_ok (n1:Int):∀r:Bool,r03_Power n1 r→FC 64 [] [cI n1] (.w (.c (.v (.bool r)))) [] []:=by
 refine fnS 11 ?_;unfold r03_Power;refine SR ?_;refine K1 ?_;refine NV ?_;refine K1 ?_;refine NO ?_;refine VS.loop (fun (k1:Int)=>(⟨[(0,wI n1),(3,wI k1)],[]⟩:St)) (j0:=1) (LSB rfl rfl rfl rfl) ?_;rintro n2 again1 ih_again1 k1;refine SS ?_;refine K2 ?_;refine NS ?_
 refine VS.cond (fun h1=>?_) (fun h1=>?_)
 ·refine KW ?_;refine K3 ?_;refine NS ?_
  refine VS.cond (fun h2=>?_) (fun h2=>?_)
  ·refine SR ?_;refine K1 ?_;refine X.nil (ES.seq (VS.ret (ES.blkR (ES.thnR (ES.thnR (ES.blkR (ES.thnR ?_)))))));exact ES.ret R1
  ·refine KB ?_;refine K1 ?_;refine X.ck fun h3=>?_;refine K1 ?_;refine X.nil ?_;exact GL ih_again1
 ·refine XE ?_;refine K1 ?_;refine NT ?_;exact ES.ret R1
theorem r03_Slots_ok (s1:List ASlot):∀r:Int,r03_Slots s1 r→FC 34 [] [.c (.v (.tree (s1.map row_ASlot)))] (.w (cI r)) [] []:=by
 refine fnS 29 ?_;unfold r03_Slots;refine SR ?_;refine K1 ?_;refine NV ?_;refine K1 ?_;refine X.lenT ?_;refine K1 ?_;refine NS ?_
 refine VS.cond (fun h1=>?_) (fun h1=>?_)
 ·refine SR ?_;refine K1 ?_;refine NU ?_;exact ES.ret R1
 ·refine VS.skip (ES.seq (VS.seq (VS.seq (VS.region ?_))));refine K1 ?_;refine NO ?_;refine VS.loop (fun (i1:Int)=>(⟨[(0,wT row_ASlot s1),(3,wI i1)],[]⟩:St)) (j0:=0) (LSB rfl rfl rfl rfl) ?_;rintro n1 again1 ih_again1 i1;refine SS ?_;refine K2 ?_;refine X.lenT ?_;refine K1 ?_;refine NS ?_
  refine VS.cond (fun h2=>?_) (fun h2=>?_)
  ·refine KW ?_;refine K2 ?_;refine X.idxT (fun h3=>?_);refine K2 ?_;refine X.call true [] [] (r02_Size_ok _) (fun x1=>?_);refine K2 ?_
   refine X.bif (fun h4=>?_) (fun h4=>?_)
   ·(iterate 7 refine X.gN h4 ?_);refine X.pT h4 ?_;refine NS ?_;refine VS.condT rfl ?_;refine SR ?_;refine K1 ?_;refine X.nil (ES.seq (VS.ret (ES.blkR (ES.thnR (ES.thnR (ES.blkR (ES.thnR ?_)))))));exact ES.ret R1
   ·(iterate 2 refine X.gY h4 ?_;refine K1 ?_);refine X.gY h4 ?_;refine X.idxT (fun h5=>?_);(iterate 2 refine X.gY h4 ?_;refine K1 ?_);refine X.gY h4 ?_;refine X.call true [] [] (r03_Power_ok _) (fun x2=>?_);refine X.gY h4 ?_;refine K1 ?_;refine X.pF h4 ?_;refine NS ?_
    refine VS.cond (fun h6=>?_) (fun h6=>?_)
    ·refine SR ?_;refine K1 ?_;refine X.nil (ES.seq (VS.ret (ES.blkR (ES.thnR (ES.thnR (ES.blkR (ES.thnR ?_)))))));exact ES.ret R1
    ·refine KB ?_;refine K1 ?_;refine X.ck fun h7=>?_;refine K1 ?_;refine X.nil ?_;exact GL ih_again1
  ·refine XE ?_;refine K1 ?_;refine NT ?_;exact ES.ret R1
theorem r03_Align_ok (s1:List ASlot):∀r:Int,r03_Align s1 r→FC 19 [] [.c (.v (.tree (s1.map row_ASlot)))] (.w (cI r)) [] []:=by
 refine fnS 23 ?_;unfold r03_Align;refine SR ?_;refine K1 ?_;refine NR ?_;refine K1 ?_;refine NV ?_;refine K1 ?_;refine X.call true [] [] (r03_Slots_ok _) (fun x1=>?_);refine K1 ?_;refine NS ?_
 refine VS.cond (fun h1=>?_) (fun h1=>?_)
 ·refine SR ?_;refine K2 ?_;refine NU ?_;exact ES.ret R1
 ·refine VS.skip (ES.seq (VS.seq (VS.seq (VS.region ?_))));refine K1 ?_;refine NO ?_;refine VS.loop (fun jj:Int × Int=>(⟨[(0,wT row_ASlot s1),(3,wI jj.1),(4,wI jj.2)],[]⟩:St)) (j0:=(16,0)) (LSB rfl rfl rfl rfl) ?_;rintro n1 again1 ih_again1 ⟨a1,i1⟩;refine SS ?_;refine K2 ?_;refine X.lenT ?_;refine K1 ?_;refine NS ?_
  refine VS.cond (fun h2=>?_) (fun h2=>?_)
  ·refine VS.skip (ES.seq (VS.seq (VS.block (VS.region ?_))));refine K3 ?_;refine X.idxT (fun h3=>?_);refine K2 ?_;refine X.max ?_;refine K1 ?_;refine NB ?_;refine K1 ?_;refine X.ck fun h4=>?_;refine K1 ?_;refine X.nil ?_;exact GL ih_again1
  ·refine XE ?_;refine K2 ?_;refine NT ?_;exact ES.ret R1
theorem r05_Align_ok (p1:AProgram):∀r:Int,r05_Align p1 r→FC 8 [] [.agg ((row_AProgram p1).map .v)] (.w (cI r)) [] []:=by
 refine fnS 22 ?_;unfold r05_Align;refine SR ?_;refine X.box 0 ?_;refine K1 ?_;refine NR ?_;refine K1 ?_;refine NV ?_;refine K1 ?_;refine NO ?_;refine VS.loop (fun jj:Int × Int=>(⟨[(1,wP 0),(3,wI jj.1),(4,wI jj.2)],[some (.bx 28 ((row_AProgram p1).map .v))]⟩:St)) (j0:=(16,0)) (LSB rfl rfl rfl rfl) ?_;rintro n1 again1 ih_again1 ⟨a1,i1⟩;refine SS ?_;refine K3 ?_;refine X.lenT ?_;refine K1 ?_;refine NS ?_
 refine VS.cond (fun h1=>?_) (fun h1=>?_)
 ·refine VS.skip (ES.seq (VS.seq (VS.block (VS.region ?_))));refine K3 ?_;refine K1 ?_;refine X.idxT (fun h2=>?_);refine K2 ?_;refine X.call true [] [] (r03_Align_ok _) (fun x1=>?_);refine X.max ?_;refine K1 ?_;refine NB ?_;refine K1 ?_;refine X.ck fun h3=>?_;refine K1 ?_;refine X.nil ?_;exact GL ih_again1
 ·refine XE ?_;refine K2 ?_;refine NT ?_;exact ES.ret R1
theorem r24_Args_ok (p1:AProgram) (i1:Int):∀r:Int,r24_Args p1 i1 r→FC 35 [] [.agg ((row_AProgram p1).map .v),cI i1] (.w (cI r)) [] []:=by
 refine fnS 51 ?_;unfold r24_Args;refine SR ?_;refine X.box 0 ?_;(iterate 2 refine K1 ?_;refine NR ?_);refine K3 ?_;refine X.idxT (fun h1=>?_);refine K3 ?_;refine NV ?_;refine K1 ?_;refine NO ?_;refine VS.loop (fun jj:Int × Int=>(⟨[(2,wP 0),(5,wI jj.1),(6,wT row_AInstr ((atD p1.Funcs i1).Code)),(7,wI jj.2)],[some (.bx 28 ((row_AProgram p1).map .v))]⟩:St)) (j0:=(0,0)) (LSB rfl rfl rfl rfl) ?_;rintro n2 again1 ih_again1 ⟨n1,k1⟩;refine SS ?_;refine K2 ?_;refine X.lenT ?_;refine K1 ?_;refine NS ?_
 refine VS.cond (fun h2=>?_) (fun h2=>?_)
 ·refine KW ?_;refine K2 ?_;refine X.idxT (fun h3=>?_);refine K2 ?_;refine X.nil (ES.seq (VS.block (VS.seq (VS.region ?_))));refine K2 ?_;refine NS ?_
  refine VS.cond (fun h4=>?_) (fun h4=>?_)
  ·refine VS.region ?_;refine K3 ?_;refine X.idxT (fun h5=>?_);refine K2 ?_;refine X.ck fun h6=>?_;refine X.max ?_;refine K1 ?_;refine X.nil (ES.blkN (ES.blkN (ES.seq (VS.region ?_))));refine K1 ?_;refine X.ck fun h7=>?_;refine K1 ?_;refine X.nil ?_;exact GL ih_again1
  ·refine SR ?_;refine K2 ?_;refine NS ?_
   refine VS.cond (fun h8=>?_) (fun h8=>?_)
   ·refine VS.drawn ?_;refine K3 ?_;refine K2 ?_;refine X.idxT (fun h9=>?_);refine K2 ?_;refine X.idxT (fun h10=>?_);refine K2 ?_;refine X.max ?_;refine K1 ?_;refine ND ?_;refine ES.blkN (ES.blkN (ES.seq (VS.region ?_)));refine K1 ?_;refine X.ck fun h11=>?_;refine K1 ?_;refine X.nil ?_;exact GL ih_again1
   ·refine VS.skip (ES.blkN (ES.blkN (ES.seq (VS.region ?_))));refine K1 ?_;refine X.ck fun h12=>?_;refine K1 ?_;refine X.nil ?_;exact GL ih_again1
 ·refine XE ?_;refine K1 ?_;refine X.ck fun h13=>?_;refine K1 ?_;refine NT ?_;exact ES.ret R1
theorem r03_Bound_ok (n1:Int):∀r:Bool,r03_Bound n1 r→FC 65 [] [cI n1] (.w (.c (.v (.bool r)))) [] []:=by
 refine fnS 9 ?_;unfold r03_Bound;refine SR ?_;refine K1 ?_;refine NR ?_;refine K3 ?_
 refine X.bif (fun h1=>?_) (fun h1=>?_)
 ·(iterate 2 refine X.gY h1 ?_;refine K1 ?_);refine X.pT h1 ?_;refine K1 ?_;refine NT ?_;exact ES.ret R1
 ·(iterate 2 refine X.gN h1 ?_);refine X.pF h1 ?_;refine K1 ?_;refine NT ?_;exact ES.ret R1
theorem r03_Up_ok (n1:Int) (align1:Int):∀r:Int × Int,r03_Up n1 align1 r→FC 36 [] [cI n1,cI align1] (.tup [cI r.1,cI r.2]) [] []:=by
 refine fnS 30 ?_;unfold r03_Up;refine SR ?_;refine K2 ?_;refine NV ?_;refine K1 ?_;refine X.call true [] [] (r03_Bound_ok _) (fun x1=>?_);refine K2 ?_
 refine X.bif (fun h1=>?_) (fun h1=>?_)
 ·(iterate 3 refine X.gN h1 ?_);refine X.pT h1 ?_;refine NS ?_;refine VS.condT rfl ?_;refine SR ?_;refine K2 ?_;refine NU ?_;exact ES.ret (Ret.clo [_,_] ⟨rfl,rfl,trivial⟩ trivial)
 ·refine X.gY h1 ?_;refine K1 ?_;refine X.gY h1 ?_;refine X.call true [] [] (r03_Power_ok _) (fun x2=>?_);refine X.gY h1 ?_;refine K1 ?_;refine X.pF h1 ?_;refine NS ?_
  refine VS.cond (fun h2=>?_) (fun h2=>?_)
  ·refine SR ?_;refine K2 ?_;refine NU ?_;exact ES.ret (Ret.clo [_,_] ⟨rfl,rfl,trivial⟩ trivial)
  ·refine KR ?_;refine K2 ?_;refine NS ?_
   refine VS.join (fun (m1:Int)=>(⟨[(6,wI m1)],[]⟩:St)) ?_ ?_
   ·rintro m1;refine SS ?_;refine K2 ?_;refine NS ?_
    refine VS.cond (fun h3=>?_) (fun h3=>?_)
    ·refine SR ?_;refine K2 ?_;refine NU ?_;exact ES.ret (Ret.clo [_,_] ⟨rfl,rfl,trivial⟩ trivial)
    ·refine KR ?_;refine K3 ?_;refine NT ?_;exact ES.ret (Ret.clo [_,_] ⟨rfl,rfl,trivial⟩ trivial)
   ·intro k1 ih_k1;refine SR ?_;refine K2 ?_;refine X.ck fun h4=>?_;refine K1 ?_;refine NS ?_
    refine VS.cond (fun h5=>?_) (fun h5=>?_)
    ·refine VS.region ?_;refine K3 ?_;refine X.ck fun h6=>?_;refine X.ck fun h7=>?_;refine K1 ?_;refine X.ck fun h8=>?_;refine K1 ?_;refine X.nil ?_;exact JL ih_k1
    ·refine VS.skip ?_;exact JL ih_k1
theorem r24_Baseline_ok (p1:AProgram) (i1:Int) (align1:Int):∀r:ALayout × Int,r24_Baseline p1 i1 align1 r→FC 20 [] [.agg ((row_AProgram p1).map .v),cI i1,cI align1] (.tup [.agg ((row_ALayout r.1).map .v),cI r.2]) [] []:=by
 refine fnS 89 ?_;unfold r24_Baseline;refine SR ?_;refine X.box 0 ?_;refine X.alloc 1 ?_;refine K1 ?_;refine NR ?_;refine K2 ?_;refine X.call true [] [] (r24_Args_ok _ _) (fun x1=>?_);refine X.build ?_;refine X.alloc 2 ?_;refine X.st ?_;(iterate 2 refine NR ?_;refine K3 ?_);refine X.idxT (fun h1=>?_);refine K3 ?_;refine NV ?_;refine K1 ?_;refine NO ?_;refine VS.loop (fun jj:Int × Int × List Int=>(⟨[(2,wI align1),(6,wP 0),(8,wP 1),(9,wI jj.1),(10,wT row_ASlot ((atD p1.Funcs i1).Slots)),(11,wI jj.2.1)],[some (.bx 66 [aI 0,aI 0,aT iRow ([]:List Int)]),some (.bx 66 [aI x1,aI 0,aT iRow jj.2.2])]⟩:St)) (j0:=(x1,0,([]:List Int))) ((St.le_drop _ 0 (Nat.le_of_ble_eq_true rfl)).trans ((St.le_mvB _ 1 0 rfl rfl rfl rfl).trans ((St.le_mvB _ 2 1 rfl rfl rfl rfl).trans (LSB rfl rfl rfl rfl)))) ?_
 rintro n1 again1 ih_again1 ⟨end1,k1,Off1⟩;refine SS ?_;refine K2 ?_;refine X.lenT ?_;refine K1 ?_;refine NS ?_
 refine VS.cond (fun h2=>?_) (fun h2=>?_)
 ·refine KW ?_;refine K3 ?_;refine X.idxT (fun h3=>?_);refine K2 ?_;refine X.call true [] [] (r03_Up_ok _ _) (fun x2=>?_);refine K3 ?_;refine K2 ?_;refine NV ?_;refine K3 ?_
  refine X.bif (fun h4=>?_) (fun h4=>?_)
  ·(iterate 8 refine X.gN h4 ?_);refine X.pT h4 ?_;refine NS ?_;refine VS.condT rfl ?_;refine SR ?_;refine X.build ?_;refine X.st ?_;refine K1 ?_;refine X.nil (ES.seq (VS.ret (ES.thnR (ES.blkR (ES.thnR (ES.thnR (ES.blkR (ES.thnR ?_))))))));exact ES.ret (Ret.clo [_,_] ⟨⟨_,_,_,_,_,_,rfl,rfl,fits rfl,rfl⟩,rfl,trivial⟩ trivial)
  ·(iterate 3 refine X.gY h4 ?_;refine K1 ?_);refine X.gY h4 ?_;refine X.idxT (fun h5=>?_);(iterate 2 refine X.gY h4 ?_;refine K1 ?_);refine X.gY h4 ?_;refine X.ck fun h6=>?_;refine X.gY h4 ?_;refine K1 ?_;refine X.pF h4 ?_;refine NS ?_
   refine VS.cond (fun h7=>?_) (fun h7=>?_)
   ·refine SR ?_;refine X.build ?_;refine X.st ?_;refine K1 ?_;refine X.nil (ES.seq (VS.ret (ES.thnR (ES.blkR (ES.thnR (ES.thnR (ES.blkR (ES.thnR ?_))))))));exact ES.ret (Ret.clo [_,_] ⟨⟨_,_,_,_,_,_,rfl,rfl,fits rfl,rfl⟩,rfl,trivial⟩ trivial)
   ·refine KR ?_;refine K2 ?_;refine X.appNT 2 (l':=Off1) (fun h8=>?_);refine K1 ?_;refine X.bs 3 ([x2.1]:List Int) iRow ?_;refine X.appMM 4 (l:=Off1) (l':=([x2.1]:List Int)) (fun h9=>?_);refine K1 ?_;refine NR ?_;refine K2 ?_;refine X.st ?_;refine NG ?_;refine K3 ?_;refine X.idxT (fun h10=>?_);refine K2 ?_;refine X.ck fun h11=>?_;refine K1 ?_;refine NB ?_;refine K1 ?_;refine X.ck fun h12=>?_;refine K1 ?_;refine X.nil ?_;exact ES.go ih_again1 _ ((St.le_tcell _ 1 2 4 rfl rfl rfl rfl).trans (LSB rfl rfl rfl rfl))
 ·refine XE ?_;refine K2 ?_;refine X.call true [] [] (r03_Up_ok _ _) (fun x3=>?_);refine K3 ?_;refine K2 ?_;refine NV ?_;refine K3 ?_
  refine X.bif (fun h13=>?_) (fun h13=>?_)
  ·(iterate 2 refine X.gN h13 ?_);refine X.pT h13 ?_;refine NS ?_;refine VS.condT rfl ?_;refine SR ?_;refine X.build ?_;refine X.st ?_;refine K1 ?_;refine NU ?_;exact ES.ret (Ret.clo [_,_] ⟨⟨_,_,_,_,_,_,rfl,rfl,fits rfl,rfl⟩,rfl,trivial⟩ trivial)
  ·(iterate 2 refine X.gY h13 ?_;refine K1 ?_);refine X.pF h13 ?_;refine NS ?_
   refine VS.cond (fun h14=>?_) (fun h14=>?_)
   ·refine SR ?_;refine X.build ?_;refine X.st ?_;refine K1 ?_;refine NU ?_;exact ES.ret (Ret.clo [_,_] ⟨⟨_,_,_,_,_,_,rfl,rfl,fits rfl,rfl⟩,rfl,trivial⟩ trivial)
   ·refine KR ?_;refine K2 ?_;refine X.st ?_;refine NR ?_;refine K1 ?_;refine X.st ?_;refine K1 ?_;refine NT ?_;exact ES.ret (Ret.clo [_,_] ⟨⟨_,_,_,_,_,_,rfl,rfl,fits rfl,rfl⟩,rfl,trivial⟩ trivial)
theorem r13_Next_ok (f1:AFunc) (k1:Int):∀r:List Int,r13_Next f1 k1 r→FC 134 [] [.agg ((row_AFunc f1).map .v),cI k1] (.w (.c (.v (.tree (r.map iRow))))) [] []:=by
 refine fnS 57 ?_;unfold r13_Next;refine SR ?_;refine X.box 0 ?_;refine K1 ?_;refine NV ?_;refine K3 ?_
 refine X.bif (fun h1=>?_) (fun h1=>?_)
 ·(iterate 5 refine X.gN h1 ?_);refine X.pT h1 ?_;refine NS ?_;refine VS.condT rfl ?_;refine SR ?_;refine K1 ?_;refine NU ?_;exact ES.ret (Ret.weak (St.le_nil _ 4 rfl) (Ret.clo [.c (aT iRow ([]:List Int))] ⟨rfl,trivial⟩ trivial))
 ·(iterate 3 refine X.gY h1 ?_;refine K1 ?_);refine X.gY h1 ?_;refine X.lenT ?_;refine X.gY h1 ?_;refine K1 ?_;refine X.pF h1 ?_;refine NS ?_
  refine VS.cond (fun h2=>?_) (fun h2=>?_)
  ·refine SR ?_;refine K1 ?_;refine NU ?_;exact ES.ret (Ret.weak (St.le_nil _ 4 rfl) (Ret.clo [.c (aT iRow ([]:List Int))] ⟨rfl,trivial⟩ trivial))
  ·refine KR ?_;refine K3 ?_;refine X.idxT (fun h3=>?_);refine K1 ?_;refine X.alloc 1 ?_;refine X.st ?_;refine NV ?_;refine K2 ?_;refine X.nil (ES.seq (VS.block (VS.seq (VS.region ?_))));refine K2 ?_;refine NS ?_
   refine VS.cond (fun h4=>?_) (fun h4=>?_)
   ·refine SR ?_;refine K2 ?_;refine X.bs 2 ([(atD f1.Code k1).A]:List Int) iRow ?_;refine K1 ?_;refine X.nil (ES.seq (VS.ret (ES.blkR (ES.thnR ?_))));exact ES.ret (Ret.weak (St.le_tree _ 4 2 rfl rfl) (Ret.clo [.c (aT iRow ([(atD f1.Code k1).A]:List Int))] ⟨rfl,trivial⟩ trivial))
   ·refine VS.join (fun (x1:Bool)=>(⟨[(1,wI k1),(5,wP 0),(21,wI ((atD f1.Code k1).Op)),(27,.w (.c (.v (.bool x1))))],[some (.bx 62 ((row_AInstr (atD f1.Code k1)).map .v))]⟩:St)) ?_ ?_
    ·rintro x1
     refine VS.cond (fun h5=>?_) (fun h5=>?_)
     ·refine SR ?_;refine K1 ?_;refine X.nil (ES.seq (VS.ret (ES.blkR (ES.thnR ?_))));exact ES.ret (Ret.weak (St.le_nil _ 4 rfl) (Ret.clo [.c (aT iRow ([]:List Int))] ⟨rfl,trivial⟩ trivial))
     ·refine SR ?_;refine K2 ?_;refine NS ?_
      refine VS.cond (fun h6=>?_) (fun h6=>?_)
      ·refine VS.block (VS.seq (VS.region ?_));refine K3 ?_;refine X.ck fun h7=>?_;refine K2 ?_;refine NS ?_
       refine VS.cond (fun h8=>?_) (fun h8=>?_)
       ·refine SR ?_;refine K3 ?_;refine X.ck fun h9=>?_;refine X.bs 1 ([(atD f1.Code k1).B,(k1+1)]:List Int) iRow ?_;refine K1 ?_;refine X.nil (ES.seq (VS.ret (ES.blkR (ES.blkR (ES.thnR ?_)))));exact ES.ret (Ret.weak (St.le_tree _ 4 1 rfl rfl) (Ret.clo [.c (aT iRow ([(atD f1.Code k1).B,(k1+1)]:List Int))] ⟨rfl,trivial⟩ trivial))
       ·refine SR ?_;refine K3 ?_;refine X.ck fun h10=>?_;refine K2 ?_;refine NS ?_
        refine VS.cond (fun h11=>?_) (fun h11=>?_)
        ·refine SR ?_;refine K1 ?_;refine X.ck fun h12=>?_;refine K2 ?_;refine X.bs 1 ([(k1+1),(atD f1.Code k1).B]:List Int) iRow ?_;refine K1 ?_;refine X.nil (ES.seq (VS.ret (ES.blkR (ES.blkR (ES.thnR ?_)))));exact ES.ret (Ret.weak (St.le_tree _ 4 1 rfl rfl) (Ret.clo [.c (aT iRow ([(k1+1),(atD f1.Code k1).B]:List Int))] ⟨rfl,trivial⟩ trivial))
        ·refine VS.skip (ES.blkN (ES.blkN (ES.seq (VS.seq (VS.region ?_)))));refine K1 ?_;refine X.ck fun h13=>?_;refine X.bs 1 ([(k1+1)]:List Int) iRow ?_;refine K1 ?_;refine NT ?_;exact ES.ret (Ret.weak (St.le_tree _ 4 1 rfl rfl) (Ret.clo [.c (aT iRow ([(k1+1)]:List Int))] ⟨rfl,trivial⟩ trivial))
      ·refine VS.skip (ES.blkN (ES.seq (VS.seq (VS.region ?_))));refine K1 ?_;refine X.ck fun h14=>?_;refine X.bs 1 ([(k1+1)]:List Int) iRow ?_;refine K1 ?_;refine NT ?_;exact ES.ret (Ret.weak (St.le_tree _ 4 1 rfl rfl) (Ret.clo [.c (aT iRow ([(k1+1)]:List Int))] ⟨rfl,trivial⟩ trivial))
    ·intro k2 ih_k2;refine SR ?_;refine K2 ?_;refine NS ?_
     refine VS.cond (fun h15=>?_) (fun h15=>?_)
     ·refine VS.skip ?_;exact ES.jn ih_k2 _ ((St.le_drop _ 0 (Nat.le_of_ble_eq_true rfl)).trans ((St.le_mvB _ 1 0 rfl rfl rfl rfl).trans (LSB rfl rfl rfl rfl)))
     ·refine VS.region ?_;refine K2 ?_;refine X.nil ?_;exact ES.jn ih_k2 _ ((St.le_drop _ 0 (Nat.le_of_ble_eq_true rfl)).trans ((St.le_mvB _ 1 0 rfl rfl rfl rfl).trans (LSB rfl rfl rfl rfl)))
theorem r15_Removable_ok (x1:AInstr):∀r:Bool,r15_Removable x1 r→FC 161 [] [.agg ((row_AInstr x1).map .v)] (.w (.c (.v (.bool r)))) [] []:=by
 refine fnS 11 ?_;unfold r15_Removable;refine SR ?_;refine X.box 0 ?_;refine K1 ?_;refine NR ?_;refine K3 ?_;refine K1 ?_
 refine X.bif (fun h1=>?_) (fun h1=>?_)
 ·(iterate 3 refine X.gN h1 ?_);refine X.pT h1 ?_;refine K1 ?_;refine NT ?_;exact ES.ret R1
 ·(iterate 3 refine X.gY h1 ?_;refine K1 ?_);refine X.pF h1 ?_;refine K1 ?_;refine NT ?_;exact ES.ret R1
theorem r15_Defines_ok (x1:AInstr):∀r:Int × Bool,r15_Defines x1 r→FC 132 [] [.agg ((row_AInstr x1).map .v)] (.tup [cI r.1,.c (.v (.bool r.2))]) [] []:=by
 refine fnS 8 ?_;unfold r15_Defines;refine SR ?_;refine X.box 0 ?_;refine K2 ?_;refine NV ?_;refine K1 ?_;refine X.call true [] [] (r15_Removable_ok _) (fun x2=>?_);refine NS ?_
 refine VS.cond (fun h1=>?_) (fun h1=>?_)
 ·refine SR ?_;refine K3 ?_;refine K1 ?_;refine NU ?_;exact ES.ret (Ret.clo [_,_] ⟨rfl,rfl,trivial⟩ trivial)
 ·refine KR ?_;refine K2 ?_;refine NT ?_;exact ES.ret (Ret.clo [_,_] ⟨rfl,rfl,trivial⟩ trivial)
theorem r04_Remove_ok (s1:List Int) (n1:Int):∀r:List Int,r04_Remove s1 n1 r→FC 167 [] [.c (.v (.tree (s1.map iRow))),cI n1] (.w (.c (.v (.tree (r.map iRow))))) [] []:=by
 refine fnS 27 ?_;unfold r04_Remove;refine SR ?_;refine K1 ?_;refine NR ?_;refine K1 ?_;refine NV ?_;refine K1 ?_;refine NO ?_;refine VS.loop (fun jj:Int × List Int=>(⟨[(0,wT iRow s1),(1,wI n1),(5,wM 0),(6,wI jj.1)],[some (.sl 3 1 false (jj.2.map iRow))]⟩:St)) (j0:=(0,([]:List Int))) ((St.le_keep _ [0,1,5,6]).trans ((St.le_adopt _ 5 0 3 1 rfl rfl).trans (LSB rfl rfl rfl rfl))) ?_;rintro n2 again1 ih_again1 ⟨i1,out1⟩;refine SS ?_;refine K2 ?_;refine X.lenT ?_;refine K1 ?_;refine NS ?_
 refine VS.cond (fun h1=>?_) (fun h1=>?_)
 ·refine KW ?_;refine K2 ?_;refine X.idxT (fun h2=>?_);refine K3 ?_;refine NS ?_
  refine VS.cond (fun h3=>?_) (fun h3=>?_)
  ·refine VS.region ?_;refine K3 ?_;refine X.idxT (fun h4=>?_);refine K1 ?_;refine X.bs 1 ([(atD s1 i1)]:List Int) iRow ?_;refine X.appMM 2 (l:=out1) (l':=([(atD s1 i1)]:List Int)) (fun h5=>?_);refine K1 ?_;refine NB ?_;refine K1 ?_;refine X.ck fun h6=>?_;refine K1 ?_;refine X.nil ?_;exact ES.go ih_again1 _ ((St.le_mvB _ 2 0 rfl rfl rfl rfl).trans (LSB rfl rfl rfl rfl))
  ·refine KB ?_;refine K1 ?_;refine X.ck fun h7=>?_;refine K1 ?_;refine X.nil ?_;exact GL ih_again1
 ·refine XE ?_;refine K2 ?_;refine NT ?_;exact ES.ret (Ret.weak (St.le_tree _ 4 0 rfl rfl) (Ret.clo [.c (aT iRow out1)] ⟨rfl,trivial⟩ trivial))
theorem r15_Uses_ok (x1:AInstr):∀r:List Int,r15_Uses x1 r→FC 162 [] [.agg ((row_AInstr x1).map .v)] (.w (.c (.v (.tree (r.map iRow))))) [] []:=by
 refine fnS 14 ?_;unfold r15_Uses;refine SR ?_;refine X.box 0 ?_;refine K1 ?_;refine NV ?_;refine K3 ?_;refine K1 ?_
 refine X.bif (fun h1=>?_) (fun h1=>?_)
 ·(iterate 3 refine X.gN h1 ?_);refine X.pT h1 ?_;refine NS ?_;refine VS.condT rfl ?_;refine SR ?_;refine K2 ?_;refine X.bs 1 ([x1.B]:List Int) iRow ?_;refine K1 ?_;refine NU ?_;exact ES.ret (Ret.weak (St.le_tree _ 2 1 rfl rfl) (Ret.clo [.c (aT iRow ([x1.B]:List Int))] ⟨rfl,trivial⟩ trivial))
 ·(iterate 3 refine X.gY h1 ?_;refine K1 ?_);refine X.pF h1 ?_;refine NS ?_
  refine VS.cond (fun h2=>?_) (fun h2=>?_)
  ·refine SR ?_;refine K2 ?_;refine X.bs 1 ([x1.B]:List Int) iRow ?_;refine K1 ?_;refine NU ?_;exact ES.ret (Ret.weak (St.le_tree _ 2 1 rfl rfl) (Ret.clo [.c (aT iRow ([x1.B]:List Int))] ⟨rfl,trivial⟩ trivial))
  ·refine KR ?_;refine K1 ?_;refine NT ?_;exact ES.ret (Ret.weak (St.le_nil _ 2 rfl) (Ret.clo [.c (aT iRow ([]:List Int))] ⟨rfl,trivial⟩ trivial))
end Go.Proofs.YtgbkhjllbgmdcaaGreat.Q
