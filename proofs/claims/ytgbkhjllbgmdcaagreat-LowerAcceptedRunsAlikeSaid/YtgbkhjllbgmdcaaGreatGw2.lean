/- Walks of functions: the code does what the lifted text says (written by a program). -/
import Derived.Test.YtgbkhjllbgmdcaaGreatLR
import Derived.Test.YtgbkhjllbgmdcaaGreatGw1
set_option linter.unusedVariables false
set_option linter.unusedSimpArgs false
set_option maxRecDepth 8000
namespace Go.Proofs.YtgbkhjllbgmdcaaGreat.Q
open Go.RowKit
set_option maxHeartbeats 4000000
theorem lower_Instr_ok (f1:AFunc) (y1:ALayout) (x1:AInstr):∀r:AInstr,lower_Instr f1 y1 x1 r→FC 16 [] [.agg ((row_AFunc f1).map .v),.agg ((row_ALayout y1).map .v),.agg ((row_AInstr x1).map .v)] (.w (.agg ((row_AInstr r).map .v))) [] []:=by
 refine fnS 15 ?_;unfold lower_Instr;refine SR ?_;refine X.box 0 ?_;refine X.box 1 ?_;refine X.box 2 ?_;refine X.alloc 3 ?_;refine X.nil (ES.seq (VS.seq (VS.drawn ?_)));refine X.call true [] [] lower_translations_ok (fun x2=>?_);refine K2 ?_
 refine X.bif (fun h1=>?_) (fun h1=>?_)
 ·refine X.idxE 0 h1 ?_;refine K3 ?_;refine X.callI true [] [] (lower_same_ok _ _ _) (fun x3=>?_);refine X.st ?_;refine ND ?_;refine ES.seq (VS.ret ?_);exact ES.ret (Ret.clo [_] ⟨⟨_,_,_,_,_,_,rfl,rfl,fits rfl,rfl⟩,trivial⟩ trivial)
 ·refine X.bif (fun h2=>?_) (fun h2=>?_)
  ·refine X.idxE 1 h2 ?_;refine K3 ?_;refine X.callI true [] [] (lower_same_ok _ _ _) (fun x4=>?_);refine X.st ?_;refine ND ?_;refine ES.seq (VS.ret ?_);exact ES.ret (Ret.clo [_] ⟨⟨_,_,_,_,_,_,rfl,rfl,fits rfl,rfl⟩,trivial⟩ trivial)
  ·refine X.bif (fun h3=>?_) (fun h3=>?_)
   ·refine X.idxE 2 h3 ?_;refine K3 ?_;refine X.callI true [] [] (lower_same_ok _ _ _) (fun x5=>?_);refine X.st ?_;refine ND ?_;refine ES.seq (VS.ret ?_);exact ES.ret (Ret.clo [_] ⟨⟨_,_,_,_,_,_,rfl,rfl,fits rfl,rfl⟩,trivial⟩ trivial)
   ·refine X.bif (fun h4=>?_) (fun h4=>?_)
    ·refine X.idxE 3 h4 ?_;refine K3 ?_;refine X.callI true [] [] (lower_same_ok _ _ _) (fun x6=>?_);refine X.st ?_;refine ND ?_;refine ES.seq (VS.ret ?_);exact ES.ret (Ret.clo [_] ⟨⟨_,_,_,_,_,_,rfl,rfl,fits rfl,rfl⟩,trivial⟩ trivial)
    ·refine X.bif (fun h5=>?_) (fun h5=>?_)
     ·refine X.idxE 4 h5 ?_;refine K3 ?_;refine X.callI true [] [] (lower_same_ok _ _ _) (fun x7=>?_);refine X.st ?_;refine ND ?_;refine ES.seq (VS.ret ?_);exact ES.ret (Ret.clo [_] ⟨⟨_,_,_,_,_,_,rfl,rfl,fits rfl,rfl⟩,trivial⟩ trivial)
     ·refine X.bif (fun h6=>?_) (fun h6=>?_)
      ·refine X.idxE 5 h6 ?_;refine K3 ?_;refine X.callI true [] [] (lower_same_ok _ _ _) (fun x8=>?_);refine X.st ?_;refine ND ?_;refine ES.seq (VS.ret ?_);exact ES.ret (Ret.clo [_] ⟨⟨_,_,_,_,_,_,rfl,rfl,fits rfl,rfl⟩,trivial⟩ trivial)
      ·refine X.bif (fun h7=>?_) (fun h7=>?_)
       ·refine X.idxE 6 h7 ?_;refine K3 ?_;refine X.callI true [] [] (lower_same_ok _ _ _) (fun x9=>?_);refine X.st ?_;refine ND ?_;refine ES.seq (VS.ret ?_);exact ES.ret (Ret.clo [_] ⟨⟨_,_,_,_,_,_,rfl,rfl,fits rfl,rfl⟩,trivial⟩ trivial)
       ·refine X.bif (fun h8=>?_) (fun h8=>?_)
        ·refine X.idxE 7 h8 ?_;refine K3 ?_;refine X.callI true [] [] (lower_same_ok _ _ _) (fun x10=>?_);refine X.st ?_;refine ND ?_;refine ES.seq (VS.ret ?_);exact ES.ret (Ret.clo [_] ⟨⟨_,_,_,_,_,_,rfl,rfl,fits rfl,rfl⟩,trivial⟩ trivial)
        ·refine X.bif (fun h9=>?_) (fun h9=>?_)
         ·refine X.idxE 8 h9 ?_;refine K3 ?_;refine X.callI true [] [] (lower_same_ok _ _ _) (fun x11=>?_);refine X.st ?_;refine ND ?_;refine ES.seq (VS.ret ?_);exact ES.ret (Ret.clo [_] ⟨⟨_,_,_,_,_,_,rfl,rfl,fits rfl,rfl⟩,trivial⟩ trivial)
         ·refine X.bif (fun h10=>?_) (fun h10=>?_)
          ·refine X.idxE 9 h10 ?_;refine K3 ?_;refine X.callI true [] [] (lower_same_ok _ _ _) (fun x12=>?_);refine X.st ?_;refine ND ?_;refine ES.seq (VS.ret ?_);exact ES.ret (Ret.clo [_] ⟨⟨_,_,_,_,_,_,rfl,rfl,fits rfl,rfl⟩,trivial⟩ trivial)
          ·refine X.bif (fun h11=>?_) (fun h11=>?_)
           ·refine X.idxE 10 h11 ?_;refine K3 ?_;refine X.callI true [] [] (lower_same_ok _ _ _) (fun x13=>?_);refine X.st ?_;refine ND ?_;refine ES.seq (VS.ret ?_);exact ES.ret (Ret.clo [_] ⟨⟨_,_,_,_,_,_,rfl,rfl,fits rfl,rfl⟩,trivial⟩ trivial)
           ·refine X.bif (fun h12=>?_) (fun h12=>?_)
            ·refine X.idxE 11 h12 ?_;refine K3 ?_;refine X.callI true [] [] (lower_same_ok _ _ _) (fun x14=>?_);refine X.st ?_;refine ND ?_;refine ES.seq (VS.ret ?_);exact ES.ret (Ret.clo [_] ⟨⟨_,_,_,_,_,_,rfl,rfl,fits rfl,rfl⟩,trivial⟩ trivial)
            ·refine X.bif (fun h13=>?_) (fun h13=>?_)
             ·refine X.idxE 12 h13 ?_;refine K3 ?_;refine X.callI true [] [] (lower_same_ok _ _ _) (fun x15=>?_);refine X.st ?_;refine ND ?_;refine ES.seq (VS.ret ?_);exact ES.ret (Ret.clo [_] ⟨⟨_,_,_,_,_,_,rfl,rfl,fits rfl,rfl⟩,trivial⟩ trivial)
             ·refine X.bif (fun h14=>?_) (fun h14=>?_)
              ·refine X.idxE 13 h14 ?_;refine K3 ?_;refine X.callI true [] [] (lower_same_ok _ _ _) (fun x16=>?_);refine X.st ?_;refine ND ?_;refine ES.seq (VS.ret ?_);exact ES.ret (Ret.clo [_] ⟨⟨_,_,_,_,_,_,rfl,rfl,fits rfl,rfl⟩,trivial⟩ trivial)
              ·refine X.bif (fun h15=>?_) (fun h15=>?_)
               ·refine X.idxE 14 h15 ?_;refine K3 ?_;refine X.callI true [] [] (lower_same_ok _ _ _) (fun x17=>?_);refine X.st ?_;refine ND ?_;refine ES.seq (VS.ret ?_);exact ES.ret (Ret.clo [_] ⟨⟨_,_,_,_,_,_,rfl,rfl,fits rfl,rfl⟩,trivial⟩ trivial)
               ·refine X.bif (fun h16=>?_) (fun h16=>?_)
                ·refine X.idxE 15 h16 ?_;refine K3 ?_;refine X.callI true [] [] (lower_translations_1_ok _ _ _) (fun x18=>?_);refine X.st ?_;refine ND ?_;refine ES.seq (VS.ret ?_);exact ES.ret (Ret.clo [_] ⟨⟨_,_,_,_,_,_,rfl,rfl,fits rfl,rfl⟩,trivial⟩ trivial)
                ·refine X.bif (fun h17=>?_) (fun h17=>?_)
                 ·refine X.idxE 16 h17 ?_;refine K3 ?_;refine X.callI true [] [] (lower_translations_2_ok _ _ _) (fun x19=>?_);refine X.st ?_;refine ND ?_;refine ES.seq (VS.ret ?_);exact ES.ret (Ret.clo [_] ⟨⟨_,_,_,_,_,_,rfl,rfl,fits rfl,rfl⟩,trivial⟩ trivial)
                 ·refine X.bif (fun h18=>?_) (fun h18=>?_)
                  ·refine X.idxE 17 h18 ?_;refine K3 ?_;refine X.callI true [] [] (lower_translations_3_ok _ _ _) (fun x20=>?_);refine X.st ?_;refine ND ?_;refine ES.seq (VS.ret ?_);exact ES.ret (Ret.clo [_] ⟨⟨_,_,_,_,_,_,rfl,rfl,fits rfl,rfl⟩,trivial⟩ trivial)
                  ·refine X.bif (fun h19=>?_) (fun h19=>?_)
                   ·refine X.idxE 18 h19 ?_;refine K3 ?_;refine X.callI true [] [] (lower_translations_4_ok _ _ _) (fun x21=>?_);refine X.st ?_;refine ND ?_;refine ES.seq (VS.ret ?_);exact ES.ret (Ret.clo [_] ⟨⟨_,_,_,_,_,_,rfl,rfl,fits rfl,rfl⟩,trivial⟩ trivial)
                   ·refine X.bif (fun h20=>?_) (fun h20=>?_)
                    ·refine X.idxE 19 h20 ?_;refine K3 ?_;refine X.callI true [] [] (lower_translations_5_ok _ _ _) (fun x22=>?_);refine X.st ?_;refine ND ?_;refine ES.seq (VS.ret ?_);exact ES.ret (Ret.clo [_] ⟨⟨_,_,_,_,_,_,rfl,rfl,fits rfl,rfl⟩,trivial⟩ trivial)
                    ·refine X.bif (fun h21=>?_) (fun h21=>?_)
                     ·refine X.idxE 20 h21 ?_;refine K3 ?_;refine X.callI true [] [] (lower_same_ok _ _ _) (fun x23=>?_);refine X.st ?_;refine ND ?_;refine ES.seq (VS.ret ?_);exact ES.ret (Ret.clo [_] ⟨⟨_,_,_,_,_,_,rfl,rfl,fits rfl,rfl⟩,trivial⟩ trivial)
                     ·refine X.bif (fun h22=>?_) (fun h22=>?_)
                      ·refine X.idxE 21 h22 ?_;refine K3 ?_;refine X.callI true [] [] (lower_same_ok _ _ _) (fun x24=>?_);refine X.st ?_;refine ND ?_;refine ES.seq (VS.ret ?_);exact ES.ret (Ret.clo [_] ⟨⟨_,_,_,_,_,_,rfl,rfl,fits rfl,rfl⟩,trivial⟩ trivial)
                      ·refine X.bif (fun h23=>?_) (fun h23=>?_)
                       ·refine X.idxE 22 h23 ?_;refine K3 ?_;refine X.callI true [] [] (lower_same_ok _ _ _) (fun x25=>?_);refine X.st ?_;refine ND ?_;refine ES.seq (VS.ret ?_);exact ES.ret (Ret.clo [_] ⟨⟨_,_,_,_,_,_,rfl,rfl,fits rfl,rfl⟩,trivial⟩ trivial)
                       ·refine X.bif (fun h24=>?_) (fun h24=>?_)
                        ·refine X.idxE 23 h24 ?_;refine K3 ?_;refine X.callI true [] [] (lower_same_ok _ _ _) (fun x26=>?_);refine X.st ?_;refine ND ?_;refine ES.seq (VS.ret ?_);exact ES.ret (Ret.clo [_] ⟨⟨_,_,_,_,_,_,rfl,rfl,fits rfl,rfl⟩,trivial⟩ trivial)
                        ·refine X.chk fun h25=>?_;refine X.idxE 24 h25 ?_;refine K3 ?_;refine X.callI true [] [] (lower_same_ok _ _ _) (fun x27=>?_);refine X.st ?_;refine ND ?_;refine ES.seq (VS.ret ?_);exact ES.ret (Ret.clo [_] ⟨⟨_,_,_,_,_,_,rfl,rfl,fits rfl,rfl⟩,trivial⟩ trivial)
theorem law26_awake_ok:∀r:Bool,law26_awake r→FC 5 [] [] (.w (.c (.v (.bool r)))) [] []:=by
 refine fnS 19 ?_;unfold law26_awake;refine SR ?_;refine K1 ?_;refine NR ?_;refine X.build ?_;refine X.bs 0 ([(⟨4,4⟩:ASlot)]:List ASlot) row_ASlot ?_;refine X.build ?_;refine X.alloc 1 ?_;refine X.st ?_;refine NR ?_;refine K1 ?_;refine X.bs 2 ([16]:List Int) iRow ?_;(iterate 2 refine X.build ?_);refine X.call false [(0,.sl 56 2 false (([(⟨4,4⟩:ASlot)]:List ASlot).map row_ASlot)),(2,.sl 3 1 false (([16]:List Int).map iRow))] [] (lower_Instr_ok _ _ _) (fun x1=>?_) (hn:=⟨rfl,⟨rfl,trivial⟩⟩) (hsc:=.inr ⟨rfl,fun _=>rfl⟩);refine X.alloc 3 ?_;refine X.st ?_;refine NR ?_;refine K3 ?_;refine K1 ?_
 refine X.bif (fun h1=>?_) (fun h1=>?_)
 ·(iterate 3 refine X.gY h1 ?_;refine K1 ?_);refine X.pT h1 ?_;refine K1 ?_;refine NT ?_;exact ES.ret R1
 ·(iterate 3 refine X.gN h1 ?_);refine X.pF h1 ?_;refine K1 ?_;refine NT ?_;exact ES.ret R1
theorem draw_New_ok (list1:List Int) (limit1:Int):∀r:DCodes,draw_New list1 limit1 r→FC 6 [] [.c (.v (.tree (list1.map bRow))),cI limit1] (.w (.c (.ptr 0 0 0))) [.bx 68 ((row_DCodes r).map .v)] []:=by
 refine fnS 13 ?_;unfold draw_New;refine SR ?_;refine K1 ?_;refine NR ?_;refine K2 ?_;refine X.lenT ?_;refine K1 ?_;refine X.min ?_;refine X.sliceT none (some (min (list1.length:Int) limit1)) (fun h1=>?_) trivial ⟨_,rfl⟩;refine X.build ?_;refine X.box 0 ?_;refine K1 ?_;refine NT ?_;exact ES.ret (Ret.cloE 0 [.c (.ptr 0 0 0)] ⟨rfl,trivial⟩ trivial)
theorem draw_Left_ok (c1:DCodes):∀r:Bool × DCodes,draw_Left c1 r→FC 31 [(68,row_DCodes c1)] [.c (.ptr 0 0 0)] (.w (.c (.v (.bool r.1)))) [] [(68,row_DCodes r.2)]:=by
 refine fnS 13 ?_;unfold draw_Left;refine SR ?_;refine K1 ?_;refine X.nil (ES.seq (VS.seq (VS.drawn ?_)));refine K3 ?_;refine K3 ?_;refine K2 ?_;refine X.lenT ?_;refine K2 ?_;refine ND ?_;refine ES.seq (VS.ret ?_);exact ES.ret (Ret.clo [_] ⟨rfl,trivial⟩ ⟨rfl,trivial⟩)
theorem draw_Next_ok (c1:DCodes) (n1:Int):∀r:Int × DCodes,draw_Next c1 n1 r→FC 17 [(68,row_DCodes c1)] [.c (.ptr 0 0 0),cI n1] (.w (cI r.1)) [] [(68,row_DCodes r.2)]:=by
 refine fnS 35 ?_;unfold draw_Next;refine SR ?_;refine K1 ?_;refine NV ?_;refine K1 ?_;refine X.call true [] [0] (draw_Left_ok _) (fun x1=>?_);refine K2 ?_
 refine X.bif (fun h1=>?_) (fun h1=>?_)
 ·(iterate 2 refine X.gN h1 ?_);refine X.pT h1 ?_;refine NS ?_;refine VS.condT rfl ?_;refine SR ?_;refine K1 ?_;refine NU ?_;exact ES.ret (Ret.clo [_] ⟨rfl,trivial⟩ ⟨rfl,trivial⟩)
 ·(iterate 2 refine X.gY h1 ?_;refine K1 ?_);refine X.pF h1 ?_;refine NS ?_
  refine VS.cond (fun h2=>?_) (fun h2=>?_)
  ·refine SR ?_;refine K1 ?_;refine NU ?_;exact ES.ret (Ret.clo [_] ⟨rfl,trivial⟩ ⟨rfl,trivial⟩)
  ·refine VS.skip (ES.seq (VS.seq (VS.drawn ?_)));refine K3 ?_;refine K3 ?_;refine K2 ?_;refine X.idxT (fun h3=>?_);refine K1 ?_;refine X.convI fun h4=>?_;refine K1 ?_;refine ND ?_;refine ES.seq (VS.seq (VS.region ?_));refine K3 ?_;refine K1 ?_;refine X.ck fun h5=>?_;refine K2 ?_;refine X.st ?_;refine NR ?_;refine K2 ?_;refine X.ck fun h6=>?_;refine X.ck fun h7=>?_;refine K1 ?_;refine NT ?_;exact ES.ret (Ret.clo [_] ⟨rfl,trivial⟩ ⟨rfl,trivial⟩)
theorem draw_Slot_ok (c1:DCodes):∀r:ASlot × DCodes,draw_Slot c1 r→FC 61 [(68,row_DCodes c1)] [.c (.ptr 0 0 0)] (.w (.agg ((row_ASlot r.1).map .v))) [] [(68,row_DCodes r.2)]:=by
 refine fnS 14 ?_;unfold draw_Slot;refine SR ?_;refine X.alloc 1 ?_;refine X.nil (ES.seq (VS.seq (VS.drawn ?_)));refine X.bs 2 ([8,4,8,1,2,16,8]:List Int) iRow ?_;refine K1 ?_;refine X.call true [] [0] (draw_Next_ok _ _) (fun x1=>?_);refine X.idxM (l:=([8,4,8,1,2,16,8]:List Int)) (i:=x1.1) (fun h1=>?_);refine X.ld (i:=x1.1) h1 ?_;refine X.bs 3 ([8,4,1,8,16,2,32,64]:List Int) iRow ?_;refine K1 ?_;refine X.call true [] [0] (draw_Next_ok _ _) (fun x2=>?_);refine X.idxM (l:=([8,4,1,8,16,2,32,64]:List Int)) (i:=x2.1) (fun h2=>?_);refine X.ld (i:=x2.1) h2 ?_;refine X.build ?_;refine X.st ?_;refine ND ?_;refine ES.seq (VS.ret ?_);exact ES.ret (Ret.clo [_] ⟨⟨_,_,_,_,_,_,rfl,rfl,fits rfl,rfl⟩,trivial⟩ ⟨rfl,trivial⟩)
theorem draw_Slots_ok (c1:DCodes) (most1:Int):∀r:List ASlot × DCodes,draw_Slots c1 most1 r→FC 32 [(68,row_DCodes c1)] [.c (.ptr 0 0 0),cI most1] (.w (.c (.v (.tree (r.1.map row_ASlot))))) [] [(68,row_DCodes r.2)]:=by
 refine fnS 21 ?_;unfold draw_Slots;refine SR ?_;refine K1 ?_;refine NR ?_;refine K1 ?_;refine NV ?_;refine K2 ?_;refine X.ck fun h1=>?_;refine X.call true [] [0] (draw_Next_ok _ _) (fun x1=>?_);refine K1 ?_;refine NO ?_;refine VS.loop (fun jj:Int × DCodes × List ASlot=>(⟨[(0,wP 0),(5,wM 1),(6,wI jj.1)],[some (.bx 68 ((row_DCodes jj.2.1).map .v)),some (.sl 56 2 false (jj.2.2.map row_ASlot))]⟩:St)) (j0:=(x1.1,x1.2,([]:List ASlot))) ((St.le_keep _ [0,5,6]).trans ((St.le_adopt _ 5 1 56 2 rfl rfl).trans (LSB rfl rfl rfl rfl))) ?_;rintro n2 again1 ih_again1 ⟨n1,c2,l1⟩;refine SS ?_;refine K2 ?_;refine NS ?_
 refine VS.cond (fun h2=>?_) (fun h2=>?_)
 ·refine VS.skip (ES.seq (VS.seq (VS.block (VS.region ?_))));refine K2 ?_;refine X.call true [] [0] (draw_Slot_ok _) (fun x2=>?_);refine X.bs 2 ([x2.1]:List ASlot) row_ASlot ?_;refine X.appMM 3 (l:=l1) (l':=([x2.1]:List ASlot)) (fun h3=>?_);refine K1 ?_;refine NB ?_;refine K1 ?_;refine X.ck fun h4=>?_;refine K1 ?_;refine X.nil ?_;exact ES.go ih_again1 _ ((St.le_mvB _ 3 1 rfl rfl rfl rfl).trans (LSB rfl rfl rfl rfl))
 ·refine XE ?_;refine K2 ?_;refine NT ?_;exact ES.ret (Ret.weak (St.le_tree _ 4 1 rfl rfl) (Ret.clo [.c (aT row_ASlot l1)] ⟨rfl,trivial⟩ ⟨rfl,trivial⟩))
theorem draw_like_ok (c1:DCodes) (f1:AFunc) (s1:Int):∀r:Int × DCodes,draw_like c1 f1 s1 r→FC 62 [(68,row_DCodes c1)] [.c (.ptr 0 0 0),.agg ((row_AFunc f1).map .v),cI s1] (.w (cI r.1)) [] [(68,row_DCodes r.2)]:=by
 refine fnS 40 ?_;unfold draw_like;refine SR ?_;refine X.box 1 ?_;refine K1 ?_;refine NR ?_;refine K1 ?_;refine NV ?_;refine K1 ?_;refine NO ?_;refine VS.loop (fun jj:Int × List Int=>(⟨[(0,wP 0),(2,wI s1),(4,wP 1),(7,wM 2),(8,wI jj.1)],[some (.bx 68 ((row_DCodes c1).map .v)),some (.bx 60 ((row_AFunc f1).map .v)),some (.sl 3 1 false (jj.2.map iRow))]⟩:St)) (j0:=(0,([]:List Int))) ((St.le_keep _ [0,2,4,7,8]).trans ((St.le_adopt _ 7 2 3 1 rfl rfl).trans (LSB rfl rfl rfl rfl))) ?_;rintro n1 again1 ih_again1 ⟨k1,l1⟩;refine SS ?_;refine K3 ?_;refine X.lenT ?_;refine K1 ?_;refine NS ?_
 refine VS.cond (fun h1=>?_) (fun h1=>?_)
 ·refine VS.skip (ES.seq (VS.seq (VS.block (VS.seq (VS.drawn ?_)))));refine K3 ?_;refine X.idxT (fun h2=>?_);refine K3 ?_;refine K2 ?_;refine X.idxT (fun h3=>?_);refine K3 ?_;refine ND ?_;refine ES.seq ?_
  refine VS.cond (fun h4=>?_) (fun h4=>?_)
  ·refine VS.region ?_;refine K2 ?_;refine X.bs 3 ([k1]:List Int) iRow ?_;refine X.appMM 4 (l:=l1) (l':=([k1]:List Int)) (fun h5=>?_);refine K1 ?_;refine NB ?_;refine K1 ?_;refine X.ck fun h6=>?_;refine K1 ?_;refine X.nil ?_;exact ES.go ih_again1 _ ((St.le_mvB _ 4 2 rfl rfl rfl rfl).trans (LSB rfl rfl rfl rfl))
  ·refine KB ?_;refine K1 ?_;refine X.ck fun h7=>?_;refine K1 ?_;refine X.nil ?_;exact GL ih_again1
 ·refine XE ?_;refine K3 ?_;refine X.lenM (l:=l1) ?_;refine X.call true [] [0] (draw_Next_ok _ _) (fun x1=>?_);refine X.idxM (l:=l1) (i:=x1.1) (fun h8=>?_);refine X.ld (i:=x1.1) h8 ?_;refine K1 ?_;refine NT ?_;exact ES.ret (Ret.clo [_] ⟨rfl,trivial⟩ ⟨rfl,trivial⟩)
theorem draw_Word_ok (c1:DCodes):∀r:Int × DCodes,draw_Word c1 r→FC 23 [(68,row_DCodes c1)] [.c (.ptr 0 0 0)] (.w (.c (.v (.int .u64 r.1)))) [] [(68,row_DCodes r.2)]:=by
 refine fnS 21 ?_;unfold draw_Word;refine SR ?_;refine K1 ?_;refine NV ?_;refine K1 ?_;refine X.call true [] [0] (draw_Next_ok _ _) (fun x1=>?_);refine X.nil (ES.seq (VS.block (VS.seq (VS.region ?_))));refine K2 ?_;refine NS ?_
 refine VS.cond (fun h1=>?_) (fun h1=>?_)
 ·refine SR ?_;refine K1 ?_;refine X.call true [] [0] (draw_Next_ok _ _) (fun x2=>?_);refine X.convU fun h2=>?_;refine X.subU fun h3=>?_;refine K1 ?_;refine X.nil (ES.seq (VS.ret (ES.blkR (ES.thnR ?_))));exact ES.ret (Ret.clo [_] ⟨rfl,trivial⟩ ⟨rfl,trivial⟩)
 ·refine SR ?_;refine K2 ?_;refine NS ?_
  refine VS.cond (fun h4=>?_) (fun h4=>?_)
  ·refine SR ?_;refine K1 ?_;refine X.call true [] [0] (draw_Next_ok _ _) (fun x3=>?_);refine X.shlU fun h5=>?_;refine K1 ?_;refine X.nil (ES.seq (VS.ret (ES.blkR (ES.thnR ?_))));exact ES.ret (Ret.clo [_] ⟨rfl,trivial⟩ ⟨rfl,trivial⟩)
  ·refine SR ?_;refine K2 ?_;refine NS ?_
   refine VS.cond (fun h6=>?_) (fun h6=>?_)
   ·refine SR ?_;refine K1 ?_;refine X.nil (ES.seq (VS.ret (ES.blkR (ES.thnR ?_))));exact ES.ret (Ret.clo [_] ⟨rfl,trivial⟩ ⟨rfl,trivial⟩)
   ·refine VS.skip (ES.blkN (ES.seq (VS.seq (VS.region ?_))));refine K1 ?_;refine X.call true [] [0] (draw_Next_ok _ _) (fun x4=>?_);refine X.convU fun h7=>?_;refine K1 ?_;refine NT ?_;exact ES.ret (Ret.clo [_] ⟨rfl,trivial⟩ ⟨rfl,trivial⟩)
theorem draw_body_ok (c1:DCodes) (f1:AFunc) (i1:Int) (params1:List Int):∀r:List AInstr × DCodes,draw_body c1 f1 i1 params1 r→FC 33 [(68,row_DCodes c1)] [.c (.ptr 0 0 0),.agg ((row_AFunc f1).map .v),cI i1,.c (.v (.tree (params1.map iRow)))] (.w (.c (.v (.tree (r.1.map row_AInstr))))) [] [(68,row_DCodes r.2)]:=by
 refine fnS 165 ?_;unfold draw_body;refine SR ?_;refine X.box 1 ?_;refine K1 ?_;refine NR ?_;refine K1 ?_;refine X.call true [] [0] (draw_Next_ok _ _) (fun x1=>?_);refine K1 ?_;refine NR ?_;refine K2 ?_;refine X.lenT ?_;refine K1 ?_;refine NR ?_;refine K1 ?_;refine X.call true [] [0] (draw_Next_ok _ _) (fun x2=>?_);refine K1 ?_;refine X.nil (ES.seq (VS.seq (VS.block ?_)))
 refine VS.join (fun (x3:Bool)=>(⟨[(0,wP 0),(2,wI i1),(3,wT iRow params1),(5,wP 1),(9,wI x1.1),(10,wI (f1.Slots.length:Int)),(11,wI x2.1),(23,.w (.c (.v (.bool x3))))],[some (.bx 68 ((row_DCodes x2.2).map .v)),some (.bx 60 ((row_AFunc f1).map .v))]⟩:St)) ?_ ?_
 ·rintro x3
  refine VS.cond (fun h1=>?_) (fun h1=>?_)
  ·refine SR ?_;refine K2 ?_;refine X.call true [] [0] (draw_Next_ok _ _) (fun x4=>?_);refine K1 ?_;refine X.build ?_;refine X.bs 2 ([(⟨16,x4.1,x1.1,0,0⟩:AInstr)]:List AInstr) row_AInstr ?_;refine K1 ?_;refine X.nil (ES.seq (VS.ret (ES.blkR (ES.thnR ?_))));exact ES.ret (Ret.weak (St.le_tree _ 8 2 rfl rfl) (Ret.clo [.c (aT row_AInstr ([(⟨16,x4.1,x1.1,0,0⟩:AInstr)]:List AInstr))] ⟨rfl,trivial⟩ ⟨rfl,trivial⟩))
  ·refine VS.join (fun (x5:Bool)=>(⟨[(0,wP 0),(2,wI i1),(3,wT iRow params1),(5,wP 1),(9,wI x1.1),(10,wI (f1.Slots.length:Int)),(11,wI x2.1),(36,.w (.c (.v (.bool x5))))],[some (.bx 68 ((row_DCodes x2.2).map .v)),some (.bx 60 ((row_AFunc f1).map .v))]⟩:St)) ?_ ?_
   ·rintro x5
    refine VS.cond (fun h2=>?_) (fun h2=>?_)
    ·refine SR ?_;refine K3 ?_;refine X.call true [] [0] (draw_Next_ok _ _) (fun x6=>?_);refine X.build ?_;refine X.bs 2 ([(⟨15,x1.1,x6.1,0,0⟩:AInstr)]:List AInstr) row_AInstr ?_;refine K1 ?_;refine X.nil (ES.seq (VS.ret (ES.blkR (ES.thnR ?_))));exact ES.ret (Ret.weak (St.le_tree _ 8 2 rfl rfl) (Ret.clo [.c (aT row_AInstr ([(⟨15,x1.1,x6.1,0,0⟩:AInstr)]:List AInstr))] ⟨rfl,trivial⟩ ⟨rfl,trivial⟩))
    ·refine VS.join (fun (x7:Bool)=>(⟨[(0,wP 0),(2,wI i1),(3,wT iRow params1),(5,wP 1),(9,wI x1.1),(10,wI (f1.Slots.length:Int)),(11,wI x2.1),(49,.w (.c (.v (.bool x7))))],[some (.bx 68 ((row_DCodes x2.2).map .v)),some (.bx 60 ((row_AFunc f1).map .v))]⟩:St)) ?_ ?_
     ·rintro x7
      refine VS.cond (fun h3=>?_) (fun h3=>?_)
      ·refine SR ?_;refine K2 ?_;refine X.call true [] [0] (draw_Next_ok _ _) (fun x8=>?_);refine K1 ?_;refine NR ?_;refine K3 ?_;refine X.call true [] [0] (draw_like_ok _ _ _) (fun x9=>?_);refine K1 ?_;refine X.build ?_;refine X.bs 2 ([(⟨17,x9.1,x8.1,0,0⟩:AInstr)]:List AInstr) row_AInstr ?_;refine K1 ?_;refine X.nil (ES.seq (VS.ret (ES.blkR (ES.thnR ?_))));exact ES.ret (Ret.weak (St.le_tree _ 8 2 rfl rfl) (Ret.clo [.c (aT row_AInstr ([(⟨17,x9.1,x8.1,0,0⟩:AInstr)]:List AInstr))] ⟨rfl,trivial⟩ ⟨rfl,trivial⟩))
      ·refine SR ?_;refine K3 ?_;refine NS ?_
       refine VS.cond (fun h4=>?_) (fun h4=>?_)
       ·refine SR ?_;refine K2 ?_;refine X.call true [] [0] (draw_Word_ok _) (fun x10=>?_);refine X.build ?_;refine X.bs 2 ([(⟨0,x1.1,0,0,x10.1⟩:AInstr)]:List AInstr) row_AInstr ?_;refine K1 ?_;refine X.nil (ES.seq (VS.ret (ES.blkR (ES.thnR ?_))));exact ES.ret (Ret.weak (St.le_tree _ 8 2 rfl rfl) (Ret.clo [.c (aT row_AInstr ([(⟨0,x1.1,0,0,x10.1⟩:AInstr)]:List AInstr))] ⟨rfl,trivial⟩ ⟨rfl,trivial⟩))
       ·refine SR ?_;refine K3 ?_;refine NS ?_
        refine VS.cond (fun h5=>?_) (fun h5=>?_)
        ·refine SR ?_;refine K1 ?_;refine X.call true [] [0] (draw_Next_ok _ _) (fun x11=>?_);refine X.ck fun h6=>?_;refine K2 ?_;refine X.call true [] [0] (draw_Next_ok _ _) (fun x12=>?_);refine K1 ?_;refine X.call true [] [0] (draw_Next_ok _ _) (fun x13=>?_);refine X.build ?_;refine X.bs 2 ([(⟨((2:Int)+x11.1),x1.1,x12.1,x13.1,0⟩:AInstr)]:List AInstr) row_AInstr ?_;refine K1 ?_;refine X.nil (ES.seq (VS.ret (ES.blkR (ES.thnR ?_))));exact ES.ret (Ret.weak (St.le_tree _ 8 2 rfl rfl) (Ret.clo [.c (aT row_AInstr ([(⟨((2:Int)+x11.1),x1.1,x12.1,x13.1,0⟩:AInstr)]:List AInstr))] ⟨rfl,trivial⟩ ⟨rfl,trivial⟩))
        ·refine SR ?_;refine K3 ?_;refine NS ?_
         refine VS.cond (fun h7=>?_) (fun h7=>?_)
         ·refine SR ?_;refine K1 ?_;refine X.build ?_;refine X.bs 2 ([(⟨14,x1.1,0,0,0⟩:AInstr)]:List AInstr) row_AInstr ?_;refine K1 ?_;refine X.nil (ES.seq (VS.ret (ES.blkR (ES.thnR ?_))));exact ES.ret (Ret.weak (St.le_tree _ 8 2 rfl rfl) (Ret.clo [.c (aT row_AInstr ([(⟨14,x1.1,0,0,0⟩:AInstr)]:List AInstr))] ⟨rfl,trivial⟩ ⟨rfl,trivial⟩))
         ·refine SR ?_;refine K3 ?_;refine NS ?_
          refine VS.cond (fun h8=>?_) (fun h8=>?_)
          ·refine SR ?_;refine X.bs 2 ([13,12,1]:List Int) iRow ?_;refine K1 ?_;refine X.call true [] [0] (draw_Next_ok _ _) (fun x14=>?_);refine X.idxM (l:=([13,12,1]:List Int)) (i:=x14.1) (fun h9=>?_);refine X.ld (i:=x14.1) h9 ?_;refine K1 ?_;refine X.build ?_;refine X.bs 3 ([(⟨(atD ([13,12,1]:List Int) x14.1),x1.1,0,0,0⟩:AInstr)]:List AInstr) row_AInstr ?_;refine K1 ?_;refine X.nil (ES.seq (VS.ret (ES.blkR (ES.thnR ?_))));exact ES.ret (Ret.weak (St.le_tree _ 8 3 rfl rfl) (Ret.clo [.c (aT row_AInstr ([(⟨(atD ([13,12,1]:List Int) x14.1),x1.1,0,0,0⟩:AInstr)]:List AInstr))] ⟨rfl,trivial⟩ ⟨rfl,trivial⟩))
          ·refine VS.join (fun (x15:Bool)=>(⟨[(0,wP 0),(2,wI i1),(3,wT iRow params1),(5,wP 1),(9,wI x1.1),(11,wI x2.1),(104,.w (.c (.v (.bool x15))))],[some (.bx 68 ((row_DCodes x2.2).map .v)),some (.bx 60 ((row_AFunc f1).map .v))]⟩:St)) ?_ ?_
           ·rintro x15
            refine VS.cond (fun h10=>?_) (fun h10=>?_)
            ·refine SR ?_;refine K3 ?_;refine K1 ?_;refine X.call true [] [0] (draw_Next_ok _ _) (fun x16=>?_);refine X.build ?_;refine X.bs 2 ([(⟨19,x1.1,x16.1,0,0⟩:AInstr)]:List AInstr) row_AInstr ?_;refine K1 ?_;refine X.nil (ES.seq (VS.ret (ES.blkR (ES.thnR ?_))));exact ES.ret (Ret.weak (St.le_tree _ 8 2 rfl rfl) (Ret.clo [.c (aT row_AInstr ([(⟨19,x1.1,x16.1,0,0⟩:AInstr)]:List AInstr))] ⟨rfl,trivial⟩ ⟨rfl,trivial⟩))
            ·refine SR ?_;refine K3 ?_
             refine X.bif (fun h11=>?_) (fun h11=>?_)
             ·refine X.gY h11 ?_;refine K1 ?_;refine X.gY h11 ?_;refine X.ck fun h12=>?_;refine X.gY h11 ?_;refine K1 ?_;refine X.gY h11 ?_;refine X.lenT ?_;refine X.gY h11 ?_;refine K1 ?_;refine X.pT h11 ?_;refine K1 ?_;refine NS ?_
              refine VS.cond (fun h13=>?_) (fun h13=>?_)
              ·refine SR ?_;refine K1 ?_;refine X.ck fun h14=>?_;refine K2 ?_;refine X.lenT ?_;refine K1 ?_;refine X.ck fun h15=>?_;refine X.ck fun h16=>?_;refine X.call true [] [0] (draw_Next_ok _ _) (fun x17=>?_);refine X.ck fun h17=>?_;refine K1 ?_;refine NR ?_;refine K1 ?_;refine NV ?_;refine K1 ?_;refine NO ?_;refine VS.loop (fun jj:Int × DCodes × List AInstr=>(⟨[(0,wP 0),(3,wT iRow params1),(13,wI ((i1+1)+x17.1)),(14,wM 1),(15,wI jj.1)],[some (.bx 68 ((row_DCodes jj.2.1).map .v)),some (.sl 62 5 false (jj.2.2.map row_AInstr))]⟩:St)) (j0:=(0,x17.2,([]:List AInstr))) ((St.le_keep _ [0,3,13,14,15]).trans ((St.le_drop _ 1 (Nat.le_of_ble_eq_true rfl)).trans ((St.le_adopt _ 14 1 62 5 rfl rfl).trans (LSB rfl rfl rfl rfl)))) ?_;rintro n1 again1 ih_again1 ⟨a1,c2,out1⟩;refine SS ?_;refine K3 ?_;refine X.idxT (fun h18=>?_)
               refine K2 ?_;refine NS ?_
               refine VS.cond (fun h19=>?_) (fun h19=>?_)
               ·refine KW ?_;refine K1 ?_;refine X.call true [] [0] (draw_Next_ok _ _) (fun x18=>?_);refine K1 ?_;refine NS ?_
                refine VS.cond (fun h20=>?_) (fun h20=>?_)
                ·refine VS.region ?_;refine K3 ?_;refine X.call true [] [0] (draw_Next_ok _ _) (fun x19=>?_);refine X.build ?_;refine X.bs 2 ([(⟨18,a1,x19.1,0,0⟩:AInstr)]:List AInstr) row_AInstr ?_;refine X.appMM 3 (l:=out1) (l':=([(⟨18,a1,x19.1,0,0⟩:AInstr)]:List AInstr)) (fun h21=>?_);refine K1 ?_;refine NB ?_;refine K1 ?_;refine X.ck fun h22=>?_;refine K1 ?_;refine X.nil ?_;exact ES.go ih_again1 _ ((St.le_mvB _ 3 1 rfl rfl rfl rfl).trans (LSB rfl rfl rfl rfl))
                ·refine KB ?_;refine K1 ?_;refine X.ck fun h23=>?_;refine K1 ?_;refine X.nil ?_;exact GL ih_again1
               ·refine XE ?_;refine K2 ?_;refine X.build ?_;refine X.bs 2 ([(⟨22,((i1+1)+x17.1),0,0,0⟩:AInstr)]:List AInstr) row_AInstr ?_;refine X.appMM 3 (l:=out1) (l':=([(⟨22,((i1+1)+x17.1),0,0,0⟩:AInstr)]:List AInstr)) (fun h24=>?_);refine K1 ?_;refine X.nil (ES.seq (VS.ret (ES.blkR (ES.thnR ?_))));exact ES.ret (Ret.weak (St.le_tree _ 8 3 rfl rfl) (Ret.clo [.c (aT row_AInstr (out1++([(⟨22,((i1+1)+x17.1),0,0,0⟩:AInstr)]:List AInstr)))] ⟨rfl,trivial⟩ ⟨rfl,trivial⟩))
              ·refine VS.skip (ES.blkN (ES.seq (VS.seq (VS.region ?_))));refine K1 ?_;refine X.build ?_;refine X.bs 2 ([(⟨14,x1.1,0,0,0⟩:AInstr)]:List AInstr) row_AInstr ?_;refine K1 ?_;refine NT ?_;exact ES.ret (Ret.weak (St.le_tree _ 8 2 rfl rfl) (Ret.clo [.c (aT row_AInstr ([(⟨14,x1.1,0,0,0⟩:AInstr)]:List AInstr))] ⟨rfl,trivial⟩ ⟨rfl,trivial⟩))
             ·(iterate 5 refine X.gN h11 ?_);refine X.pF h11 ?_;refine K1 ?_;refine NS ?_;refine VS.condF rfl ?_;refine VS.skip (ES.blkN (ES.seq (VS.seq (VS.region ?_))));refine K1 ?_;refine X.build ?_;refine X.bs 2 ([(⟨14,x1.1,0,0,0⟩:AInstr)]:List AInstr) row_AInstr ?_;refine K1 ?_;refine NT ?_;exact ES.ret (Ret.weak (St.le_tree _ 8 2 rfl rfl) (Ret.clo [.c (aT row_AInstr ([(⟨14,x1.1,0,0,0⟩:AInstr)]:List AInstr))] ⟨rfl,trivial⟩ ⟨rfl,trivial⟩))
           ·intro k4 ih_k4;refine VS.region ?_;refine K3 ?_
            refine X.bif (fun h25=>?_) (fun h25=>?_)
            ·(iterate 3 refine X.gY h25 ?_;refine K1 ?_);refine X.pT h25 ?_;refine K1 ?_;refine X.nil ?_;exact JL ih_k4
            ·(iterate 3 refine X.gN h25 ?_);refine X.pF h25 ?_;refine K1 ?_;refine X.nil ?_;exact JL ih_k4
     ·intro k3 ih_k3;refine VS.region ?_;refine K3 ?_
      refine X.bif (fun h26=>?_) (fun h26=>?_)
      ·(iterate 2 refine X.gY h26 ?_;refine K1 ?_);refine X.pT h26 ?_;refine K1 ?_;refine X.nil ?_;exact JL ih_k3
      ·(iterate 2 refine X.gN h26 ?_);refine X.pF h26 ?_;refine K1 ?_;refine X.nil ?_;exact JL ih_k3
   ·intro k2 ih_k2;refine VS.region ?_;refine K3 ?_
    refine X.bif (fun h27=>?_) (fun h27=>?_)
    ·(iterate 2 refine X.gY h27 ?_;refine K1 ?_);refine X.pT h27 ?_;refine K1 ?_;refine X.nil ?_;exact JL ih_k2
    ·(iterate 2 refine X.gN h27 ?_);refine X.pF h27 ?_;refine K1 ?_;refine X.nil ?_;exact JL ih_k2
 ·intro k1 ih_k1;refine VS.region ?_;refine K3 ?_
  refine X.bif (fun h28=>?_) (fun h28=>?_)
  ·(iterate 2 refine X.gY h28 ?_;refine K1 ?_);refine X.pT h28 ?_;refine K1 ?_;refine X.nil ?_;exact JL ih_k1
  ·(iterate 2 refine X.gN h28 ?_);refine X.pF h28 ?_;refine K1 ?_;refine X.nil ?_;exact JL ih_k1
end Go.Proofs.YtgbkhjllbgmdcaaGreat.Q
