/- The data of the program, and its functions as lifted texts (written by a program). -/
import Derived.Test.YtgbkhjllbgmdcaaGreatPureB
set_option linter.unusedVariables false
namespace Go.Proofs.YtgbkhjllbgmdcaaGreat.Q
def in512 (n:Int):Bool:=decide (0≤n∧n<512)
structure ASlot where
  Size:Int
  Align:Int
  deriving DecidableEq
instance : Inhabited ASlot:=⟨⟨0,0⟩⟩
structure AInstr where
  Op:Int
  A:Int
  B:Int
  C:Int
  Imm:Int
  deriving DecidableEq
instance : Inhabited AInstr:=⟨⟨0,0,0,0,0⟩⟩
structure AFunc where
  Params:Int
  Slots:List ASlot
  Code:List AInstr
  deriving DecidableEq
instance : Inhabited AFunc:=⟨⟨0,[],[]⟩⟩
structure ALayout where
  Args:Int
  Size:Int
  Off:List Int
  deriving DecidableEq
instance : Inhabited ALayout:=⟨⟨0,0,[]⟩⟩
structure DCodes where
  list:List Int
  at_:Int
  deriving DecidableEq
instance : Inhabited DCodes:=⟨⟨[],0⟩⟩
structure AProgram where
  Funcs:List AFunc
  deriving DecidableEq
instance : Inhabited AProgram:=⟨⟨[]⟩⟩
structure Layout_subject where
  p:AProgram
  i:Int
  align:Int
  f:AFunc
  y:ALayout
  deriving DecidableEq
instance : Inhabited Layout_subject:=⟨⟨default,0,0,default,default⟩⟩
structure AInterval where
  Off:Int
  Size:Int
  deriving DecidableEq
instance : Inhabited AInterval:=⟨⟨0,0⟩⟩
structure AFrame where
  Params:Int
  Size:Int
  Code:List AInstr
  deriving DecidableEq
instance : Inhabited AFrame:=⟨⟨0,0,[]⟩⟩
structure ATarget where
  Align:Int
  Frames:List AFrame
  deriving DecidableEq
instance : Inhabited ATarget:=⟨⟨0,[]⟩⟩
structure AValue where
  Lo:Int
  Hi:Int
  deriving DecidableEq
instance : Inhabited AValue:=⟨⟨0,0⟩⟩
structure Arr8AValue where
  e0:AValue
  e1:AValue
  e2:AValue
  e3:AValue
  e4:AValue
  e5:AValue
  e6:AValue
  e7:AValue
  deriving DecidableEq
def Arr8AValue.at_ (a:Arr8AValue) (i:Int):AValue:=match i.toNat with
  | 0=>a.e0
  | 1=>a.e1
  | 2=>a.e2
  | 3=>a.e3
  | 4=>a.e4
  | 5=>a.e5
  | 6=>a.e6
  | _=>a.e7
def Arr8AValue.set (a:Arr8AValue) (i:Int) (v:AValue):Arr8AValue:=match i.toNat with
  | 0=>⟨v,a.e1,a.e2,a.e3,a.e4,a.e5,a.e6,a.e7⟩
  | 1=>⟨a.e0,v,a.e2,a.e3,a.e4,a.e5,a.e6,a.e7⟩
  | 2=>⟨a.e0,a.e1,v,a.e3,a.e4,a.e5,a.e6,a.e7⟩
  | 3=>⟨a.e0,a.e1,a.e2,v,a.e4,a.e5,a.e6,a.e7⟩
  | 4=>⟨a.e0,a.e1,a.e2,a.e3,v,a.e5,a.e6,a.e7⟩
  | 5=>⟨a.e0,a.e1,a.e2,a.e3,a.e4,v,a.e6,a.e7⟩
  | 6=>⟨a.e0,a.e1,a.e2,a.e3,a.e4,a.e5,v,a.e7⟩
  | _=>⟨a.e0,a.e1,a.e2,a.e3,a.e4,a.e5,a.e6,v⟩
instance : Inhabited Arr8AValue:=⟨⟨default,default,default,default,default,default,default,default⟩⟩
structure R08cell where
  v:AValue
  ok:Bool
  deriving DecidableEq
instance : Inhabited R08cell:=⟨⟨default,false⟩⟩
structure R08activation where
  f:Int
  at_:Int
  slots:List R08cell
  args:List R08cell
  deriving DecidableEq
instance : Inhabited R08activation:=⟨⟨0,0,[],[]⟩⟩
structure AOutcome where
  Kind:Int
  Code:Int
  Result:AValue
  Trace:List AValue
  Steps:Int
  deriving DecidableEq
instance : Inhabited AOutcome:=⟨⟨0,0,default,[],0⟩⟩
structure R08machine where
  p:AProgram
  regs:Arr8AValue
  acts:List R08activation
  input:List Int
  deep:Int
  done:Bool
  out:AOutcome
  deriving DecidableEq
instance : Inhabited R08machine:=⟨⟨default,default,[],[],0,false,default⟩⟩
structure AStack where
  Bytes:List Int
  Used:List Bool
  SP:Int
  deriving DecidableEq
instance : Inhabited AStack:=⟨⟨[],[],0⟩⟩
structure R12activation where
  f:Int
  at_:Int
  deriving DecidableEq
instance : Inhabited R12activation:=⟨⟨0,0⟩⟩
structure R12machine where
  t:ATarget
  regs:Arr8AValue
  acts:List R12activation
  stack:AStack
  first:Int
  deep:Int
  input:List Int
  done:Bool
  out:AOutcome
  deriving DecidableEq
instance : Inhabited R12machine:=⟨⟨default,default,[],default,0,0,[],false,default⟩⟩
structure ALive where
  Out:List (List Int)
  deriving DecidableEq
instance : Inhabited ALive:=⟨⟨[]⟩⟩
structure Arr2Int where
  e0:Int
  e1:Int
  deriving DecidableEq
instance : Inhabited Arr2Int:=⟨⟨0,0⟩⟩
structure ARename where
  To:List Int
  Keep:List Bool
  deriving DecidableEq
instance : Inhabited ARename:=⟨⟨[],[]⟩⟩
structure AProposal where
  Live:ALive
  Rename:ARename
  LiveAfter:ALive
  Layout:ALayout
  deriving DecidableEq
instance : Inhabited AProposal:=⟨⟨default,default,default,default⟩⟩
def lower_same (_1:AFunc) (_2:ALayout) (x1:AInstr):M (AInstr):=
  M.ret x1
def lower_translations_1 (f1:AFunc) (y1:ALayout) (x1:AInstr):M (AInstr):=
  M.chk ((0:Int)≤x1.B∧x1.B<(y1.Off.length:Int))<|
  M.chk ((0:Int)≤x1.B∧x1.B<(f1.Slots.length:Int))<|
  M.ret (⟨15,x1.A,(atD y1.Off x1.B),(atD f1.Slots x1.B).Size,0⟩:AInstr)
def lower_translations_2 (f1:AFunc) (y1:ALayout) (x1:AInstr):M (AInstr):=
  M.chk ((0:Int)≤x1.A∧x1.A<(y1.Off.length:Int))<|
  M.chk ((0:Int)≤x1.A∧x1.A<(f1.Slots.length:Int))<|
  M.ret (⟨16,(atD y1.Off x1.A),x1.B,(atD f1.Slots x1.A).Size,0⟩:AInstr)
def lower_translations_3 (f1:AFunc) (y1:ALayout) (x1:AInstr):M (AInstr):=
  M.chk ((0:Int)≤x1.A∧x1.A<(y1.Off.length:Int))<|
  M.chk ((0:Int)≤x1.B∧x1.B<(y1.Off.length:Int))<|
  M.chk ((0:Int)≤x1.A∧x1.A<(f1.Slots.length:Int))<|
  M.ret (⟨17,(atD y1.Off x1.A),(atD y1.Off x1.B),(atD f1.Slots x1.A).Size,0⟩:AInstr)
def lower_translations_4 (_1:AFunc) (_2:ALayout) (x1:AInstr):M (AInstr):=
  M.chk (okI ((16:Int)*x1.A))<|
  M.ret (⟨16,((16:Int)*x1.A),x1.B,16,0⟩:AInstr)
def lower_translations_5 (_1:AFunc) (y1:ALayout) (x1:AInstr):M (AInstr):=
  M.chk (okI ((16:Int)*x1.B))<|
  M.chk (okI (y1.Size+((16:Int)*x1.B)))<|
  M.ret (⟨15,x1.A,(y1.Size+((16:Int)*x1.B)),16,0⟩:AInstr)
def lower_translations:M (Unit):=
  M.chk (okI ((0:Int)+1))<|
  M.chk (okI ((1:Int)+1))<|
  M.chk (okI ((2:Int)+1))<|
  M.chk (okI ((3:Int)+1))<|
  M.chk (okI ((4:Int)+1))<|
  M.chk (okI ((5:Int)+1))<|
  M.chk (okI ((6:Int)+1))<|
  M.chk (okI ((7:Int)+1))<|
  M.chk (okI ((8:Int)+1))<|
  M.chk (okI ((9:Int)+1))<|
  M.chk (okI ((10:Int)+1))<|
  M.chk (okI ((11:Int)+1))<|
  M.chk (okI ((12:Int)+1))<|
  M.chk (okI ((13:Int)+1))<|
  M.chk (okI ((14:Int)+1))<|
  M.chk (okI ((15:Int)+1))<|
  M.chk (okI ((16:Int)+1))<|
  M.chk (okI ((17:Int)+1))<|
  M.chk (okI ((18:Int)+1))<|
  M.chk (okI ((19:Int)+1))<|
  M.chk (okI ((20:Int)+1))<|
  M.chk (okI ((21:Int)+1))<|
  M.chk (okI ((22:Int)+1))<|
  M.chk (okI ((23:Int)+1))<|
  M.chk (okI ((24:Int)+1))<|
  M.ret ()
def lower_Instr (f1 : AFunc) (y1 : ALayout) (x1 : AInstr) : M (AInstr) :=
  M.call (lower_translations) fun x2=>
  M.bif (decide (x1.Op = 0))
    (M.call (lower_same f1 y1 x1) fun x3=>
     M.ret x3)
    (M.bif (decide (x1.Op = 1))
       (M.call (lower_same f1 y1 x1) fun x4=>
        M.ret x4)
       (M.bif (decide (x1.Op = 2))
          (M.call (lower_same f1 y1 x1) fun x5=>
           M.ret x5)
          (M.bif (decide (x1.Op = 3))
             (M.call (lower_same f1 y1 x1) fun x6=>
              M.ret x6)
             (M.bif (decide (x1.Op = 4))
                (M.call (lower_same f1 y1 x1) fun x7=>
                 M.ret x7)
                (M.bif (decide (x1.Op = 5))
                   (M.call (lower_same f1 y1 x1) fun x8=>
                    M.ret x8)
                   (M.bif (decide (x1.Op = 6))
                      (M.call (lower_same f1 y1 x1) fun x9=>
                       M.ret x9)
                      (M.bif (decide (x1.Op = 7))
                         (M.call (lower_same f1 y1 x1) fun x10=>
                          M.ret x10)
                         (M.bif (decide (x1.Op = 8))
                            (M.call (lower_same f1 y1 x1) fun x11=>
                             M.ret x11)
                            (M.bif (decide (x1.Op = 9))
                               (M.call (lower_same f1 y1 x1) fun x12=>
                                M.ret x12)
                               (M.bif (decide (x1.Op = 10))
                                  (M.call (lower_same f1 y1 x1) fun x13=>
                                   M.ret x13)
                                  (M.bif (decide (x1.Op = 11))
                                     (M.call (lower_same f1 y1 x1) fun x14=>
                                      M.ret x14)
                                     (M.bif (decide (x1.Op = 12))
                                        (M.call (lower_same f1 y1 x1) fun x15=>
                                         M.ret x15)
                                        (M.bif (decide (x1.Op = 13))
                                           (M.call (lower_same f1 y1 x1) fun x16=>
                                            M.ret x16)
                                           (M.bif (decide (x1.Op = 14))
                                              (M.call (lower_same f1 y1 x1) fun x17=>
                                               M.ret x17)
                                              (M.bif (decide (x1.Op = 15))
                                                 (M.call (lower_translations_1 f1 y1 x1) fun x18=>
                                                  M.ret x18)
                                                 (M.bif (decide (x1.Op = 16))
                                                    (M.call (lower_translations_2 f1 y1 x1) fun x19=>
                                                     M.ret x19)
                                                    (M.bif (decide (x1.Op = 17))
                                                       (M.call (lower_translations_3 f1 y1 x1) fun x20=>
                                                        M.ret x20)
                                                       (M.bif (decide (x1.Op = 18))
                                                          (M.call (lower_translations_4 f1 y1 x1) fun x21=>
                                                           M.ret x21)
                                                          (M.bif (decide (x1.Op = 19))
                                                             (M.call (lower_translations_5 f1 y1 x1) fun x22=>
                                                              M.ret x22)
                                                             (M.bif (decide (x1.Op = 20))
                                                                (M.call (lower_same f1 y1 x1) fun x23=>
                                                                 M.ret x23)
                                                                (M.bif (decide (x1.Op = 21))
                                                                   (M.call (lower_same f1 y1 x1) fun x24=>
                                                                    M.ret x24)
                                                                   (M.bif (decide (x1.Op = 22))
                                                                      (M.call (lower_same f1 y1 x1) fun x25=>
                                                                       M.ret x25)
                                                                      (M.bif (decide (x1.Op=23))
                                                                         (M.call (lower_same f1 y1 x1) fun x26=>
                                                                          M.ret x26)
                                                                         (M.chk ((decide (x1.Op=24))=true)<|
                                                                          M.call (lower_same f1 y1 x1) fun x27=>
                                                                          M.ret x27))))))))))))))))))))))))
def law26_awake:M (Bool):=
  M.call (lower_Instr (⟨0,([(⟨4,4⟩:ASlot)]:List ASlot),([]:List AInstr)⟩:AFunc) (⟨0,32,([16]:List Int)⟩:ALayout) (⟨15,1,0,0,0⟩:AInstr)) fun x1=>
  M.bif (decide (x1.B=16))
    (M.ret (decide (x1.C=4)))
    (M.ret false)
def draw_New (list1:List Int) (limit1:Int):M (DCodes):=
  M.chk ((0:Int)≤0∧0≤(min (list1.length:Int) limit1)∧(min (list1.length:Int) limit1)≤(list1.length:Int))<|
  M.ret (⟨(sliceD list1 0 (min (list1.length:Int) limit1)),0⟩:DCodes)
def draw_Left (c1:DCodes):M (Bool × DCodes):=
  M.ret ((decide (c1.at_<(c1.list.length:Int))),c1)
def draw_Next (c1:DCodes) (n1:Int):M (Int × DCodes):=
  M.call (draw_Left c1) fun x1=>
  M.bif (!x1.1)
    (M.ret (0,x1.2))
    (M.bif (decide (n1<1))
       (M.ret (0,x1.2))
       (M.chk ((0:Int)≤x1.2.at_∧x1.2.at_<(x1.2.list.length:Int))<|
        M.chk (okI (atD x1.2.list x1.2.at_))<|
        M.chk (okI (x1.2.at_+1))<|
        M.chk (okI ((atD x1.2.list x1.2.at_)*n1))<|
        M.chk ((0:Int)≤((atD x1.2.list x1.2.at_)*n1)∧(0:Int)<256∧((atD x1.2.list x1.2.at_)*n1)≤9223372036854775807)<|
        M.ret ((((atD x1.2.list x1.2.at_)*n1) / 256),(⟨x1.2.list,(x1.2.at_+1)⟩:DCodes))))
def draw_Slot (c1:DCodes):M (ASlot × DCodes):=
  M.call (draw_Next c1 7) fun x1=>
  M.chk ((0:Int)≤x1.1∧x1.1<(([8,4,8,1,2,16,8]:List Int).length:Int))<|
  M.call (draw_Next x1.2 8) fun x2=>
  M.chk ((0:Int)≤x2.1∧x2.1<(([8,4,1,8,16,2,32,64]:List Int).length:Int))<|
  M.ret ((⟨(atD ([8,4,8,1,2,16,8]:List Int) x1.1),(atD ([8,4,1,8,16,2,32,64]:List Int) x2.1)⟩:ASlot),x2.2)
def draw_Slots (c1:DCodes) (most1:Int):M (List ASlot × DCodes):=
  M.chk (okI (most1+1))<|
  M.call (draw_Next c1 (most1+1)) fun x1=>
  M.loop (fun again1 ((n1,c2,l1):Int × DCodes × List ASlot)=>
      M.bif (decide (0<n1))
        (M.call (draw_Slot c2) fun x2=>
         M.chk (l1.length+([x2.1]:List ASlot).length<1000000000000)<|
         M.chk (okI (n1- 1))<|
         again1 ((n1- 1),x2.2,(l1++([x2.1]:List ASlot))))
        (M.ret (l1,c2))) (x1.1,x1.2,([]:List ASlot))
def draw_like (c1:DCodes) (f1:AFunc) (s1:Int):M (Int × DCodes):=
  M.loop (fun again1 ((k1,l1):Int × List Int)=>
      M.bif (decide (k1<(f1.Slots.length:Int)))
        (M.chk ((0:Int)≤k1∧k1<(f1.Slots.length:Int))<|
         M.chk ((0:Int)≤s1∧s1<(f1.Slots.length:Int))<|
         M.bif (decide (((atD f1.Slots k1).Size)=((atD f1.Slots s1).Size)))
           (M.chk (l1.length+([k1]:List Int).length<1000000000000)<|
            M.chk (okI (k1+1))<|
            again1 ((k1+1),(l1++([k1]:List Int))))
           (M.chk (okI (k1+1))<|
            again1 ((k1+1),l1)))
        (M.call (draw_Next c1 (l1.length:Int)) fun x1=>
         M.chk ((0:Int)≤x1.1∧x1.1<(l1.length:Int))<|
         M.ret ((atD l1 x1.1),x1.2))) (0,([]:List Int))
def draw_Word (c1:DCodes):M (Int × DCodes):=
  M.call (draw_Next c1 6) fun x1=>
  M.bif (decide (x1.1=0))
    (M.call (draw_Next x1.2 3) fun x2=>
     M.chk ((0:Int)≤x2.1∧x2.1≤18446744073709551615)<|
     M.chk ((0:Int)≤(18446744073709551615:Int)- x2.1∧(18446744073709551615:Int)- x2.1≤18446744073709551615)<|
     M.ret (((18446744073709551615:Int)- x2.1),x2.2))
    (M.bif (decide (x1.1 = 1))
       (M.call (draw_Next x1.2 64) fun x3=>
        M.chk ((0:Int)≤x3.1∧x3.1≤64∧(0≤(1:Int)*2 ^ x3.1.toNat∧(1:Int)*2 ^ x3.1.toNat≤18446744073709551615))<|
        M.ret (((1:Int)*2 ^ x3.1.toNat),x3.2))
       (M.bif (decide (x1.1=2))
          (M.ret (0,x1.2))
          (M.call (draw_Next x1.2 256) fun x4=>
           M.chk ((0:Int)≤x4.1∧x4.1≤18446744073709551615)<|
           M.ret (x4.1,x4.2))))
def draw_body (c1 : DCodes) (f1 : AFunc) (i1 : Int) (params1 : List Int) : M (List AInstr × DCodes) :=
  M.call (draw_Next c1 4) fun x1=>
  M.call (draw_Next x1.2 20) fun x2=>
  M.join (fun (x3 : Bool) =>
      M.bif x3
        (M.call (draw_Next x2.2 (f1.Slots.length:Int)) fun x4=>
         M.ret (([(⟨16,x4.1,x1.1,0,0⟩:AInstr)]:List AInstr),x4.2))
        (M.join (fun (x5 : Bool) =>
             M.bif x5
               (M.call (draw_Next x2.2 (f1.Slots.length:Int)) fun x6=>
                M.ret (([(⟨15,x1.1,x6.1,0,0⟩:AInstr)]:List AInstr),x6.2))
               (M.join (fun (x7 : Bool) =>
                    M.bif x7
                      (M.call (draw_Next x2.2 (f1.Slots.length:Int)) fun x8=>
                       M.call (draw_like x8.2 f1 x8.1) fun x9=>
                       M.ret (([(⟨17,x9.1,x8.1,0,0⟩:AInstr)]:List AInstr),x9.2))
                      (M.bif (decide (x2.1 < 11))
                         (M.call (draw_Word x2.2) fun x10=>
                          M.ret (([(⟨0,x1.1,0,0,x10.1⟩:AInstr)]:List AInstr),x10.2))
                         (M.bif (decide (x2.1 < 13))
                            (M.call (draw_Next x2.2 10) fun x11=>
                             M.chk (okI ((2:Int)+x11.1))<|
                             M.call (draw_Next x11.2 4) fun x12=>
                             M.call (draw_Next x12.2 8) fun x13=>
                             M.ret (([(⟨((2:Int)+x11.1),x1.1,x12.1,x13.1,0⟩:AInstr)]:List AInstr),x13.2))
                            (M.bif (decide (x2.1 < 15))
                               (M.ret (([(⟨14,x1.1,0,0,0⟩:AInstr)]:List AInstr),x2.2))
                               (M.bif (decide (x2.1 = 15))
                                  (M.call (draw_Next x2.2 3) fun x14=>
                                   M.chk ((0:Int)≤x14.1∧x14.1<(([13,12,1]:List Int).length:Int))<|
                                   M.ret (([(⟨(atD ([13,12,1]:List Int) x14.1),x1.1,0,0,0⟩:AInstr)]:List AInstr),x14.2))
                                  (M.join (fun (x15 : Bool) =>
                                       M.bif x15
                                         (M.call (draw_Next x2.2 f1.Params) fun x16=>
                                          M.ret (([(⟨19,x1.1,x16.1,0,0⟩:AInstr)]:List AInstr),x16.2))
                                         (M.bif (decide (17 ≤ x2.1))
                                            (M.chk (okI (i1+1))<|
                                             M.bif (decide ((i1+1)<(params1.length:Int)))
                                               (M.chk (okI (i1 + 1)) <|
                                                M.chk (okI ((params1.length:Int)- i1))<|
                                                M.chk (okI (((params1.length:Int)- i1)- 1))<|
                                                M.call (draw_Next x2.2 (((params1.length:Int)- i1)- 1)) fun x17=>
                                                M.chk (okI ((i1+1)+x17.1))<|
                                                M.loop (fun again1 ((a1,c2,out1):Int × DCodes × List AInstr)=>
                                                    M.chk ((0:Int)≤((i1+1)+x17.1)∧((i1+1)+x17.1)<(params1.length:Int))<|
                                                    M.bif (decide (a1<(atD params1 ((i1+1)+x17.1))))
                                                      (M.call (draw_Next c2 8) fun x18=>
                                                       M.bif (decide (x18.1<7))
                                                         (M.call (draw_Next x18.2 4) fun x19=>
                                                          M.chk (out1.length+([(⟨18,a1,x19.1,0,0⟩:AInstr)]:List AInstr).length<1000000000000)<|
                                                          M.chk (okI (a1+1))<|
                                                          again1 ((a1+1),x19.2,(out1++([(⟨18,a1,x19.1,0,0⟩:AInstr)]:List AInstr))))
                                                         (M.chk (okI (a1+1))<|
                                                          again1 ((a1+1),x18.2,out1)))
                                                      (M.chk (out1.length+([(⟨22,((i1+1)+x17.1),0,0,0⟩:AInstr)]:List AInstr).length<1000000000000)<|
                                                       M.ret ((out1++([(⟨22,((i1+1)+x17.1),0,0,0⟩:AInstr)]:List AInstr)),c2))) (0,x17.2,([]:List AInstr)))
                                               (M.ret (([(⟨14,x1.1,0,0,0⟩:AInstr)]:List AInstr),x2.2)))
                                            (M.ret (([(⟨14,x1.1,0,0,0⟩:AInstr)]:List AInstr),x2.2)))) fun k4=>
                                   M.bif (decide (x2.1=16))
                                     (k4 (decide (0<f1.Params)))
                                     (k4 false))))))) fun k3=>
                M.bif (decide (x2.1<9))
                  (k3 (decide (0<(f1.Slots.length:Int))))
                  (k3 false))) fun k2=>
         M.bif (decide (x2.1<6))
           (k2 (decide (0<(f1.Slots.length:Int))))
           (k2 false))) fun k1=>
  M.bif (decide (x2.1<3))
    (k1 (decide (0<(f1.Slots.length:Int))))
    (k1 false)
def draw_function (c1 : DCodes) (i1 : Int) (params1 : List Int) (most1 : Int) : M (AFunc × DCodes) :=
  M.chk ((0:Int)≤i1∧i1<(params1.length:Int))<|
  M.call (draw_Slots c1 6) fun x1=>
  M.loop (fun again1 ((s1, c2, code1) : Int × DCodes × List AInstr) =>
      M.bif (decide (s1 < (x1.1.length : Int)))
        (M.call (draw_Next c2 4) fun x2=>
         M.bif (decide (x2.1<3))
           (M.call (draw_Next x2.2 4) fun x3=>
            M.chk (code1.length+([(⟨16,s1,x3.1,0,0⟩:AInstr)]:List AInstr).length<1000000000000)<|
            M.chk (okI (s1+1))<|
            again1 ((s1+1),x3.2,(code1++([(⟨16,s1,x3.1,0,0⟩:AInstr)]:List AInstr))))
           (M.chk (okI (s1+1))<|
            again1 ((s1+1),x2.2,code1)))
        (M.chk (okI (most1 + 1)) <|
         M.call (draw_Next c2 (most1+1)) fun x4=>
         M.loop (fun again2 ((n2, c3, code2) : Int × DCodes × List AInstr) =>
             M.bif (decide (0 < n2))
               (M.call (draw_body c3 (⟨(atD params1 i1),x1.1,([]:List AInstr)⟩:AFunc) i1 params1) fun x5=>
                M.chk (code2.length+x5.1.length<1000000000000)<|
                M.call (draw_Next x5.2 9) fun x6=>
                M.bif (decide (x6.1=7))
                  (M.call (draw_Next x6.2 4) fun x7=>
                   M.chk ((code2++x5.1).length+([(⟨21,x7.1,(-1),0,0⟩:AInstr)]:List AInstr).length<1000000000000)<|
                   M.chk (okI (n2- 1))<|
                   again2 ((n2- 1),x7.2,((code2++x5.1)++([(⟨21,x7.1,(-1),0,0⟩:AInstr)]:List AInstr))))
                  (M.bif (decide (x6.1 = 8))
                     (M.call (draw_Next x6.2 3) fun x8=>
                      M.bif (decide (x8.1=2))
                        (M.chk ((code2++x5.1).length+([(⟨20,(-1),0,0,0⟩:AInstr)]:List AInstr).length<1000000000000)<|
                         M.chk (okI (n2- 1))<|
                         again2 ((n2- 1),x8.2,((code2++x5.1)++([(⟨20,(-1),0,0,0⟩:AInstr)]:List AInstr))))
                        (M.chk (okI (n2- 1))<|
                         again2 ((n2- 1),x8.2,(code2++x5.1))))
                     (M.chk (okI (n2- 1))<|
                      again2 ((n2- 1),x6.2,(code2++x5.1)))))
               (M.join (fun ((c4, Op1, Imm1) : DCodes × Int × Int) =>
                    M.chk (code2.length+([(⟨Op1,0,0,0,Imm1⟩:AInstr)]:List AInstr).length<1000000000000)<|
                    M.loop (fun again3 ((k2, c5, code3) : Int × DCodes × List AInstr) =>
                        M.bif (decide (k2 < (code3.length : Int)))
                          (M.call (draw_Next c5 8) fun x9 =>
                           M.chk (okI (k2+x9.1))<|
                           M.chk (okI ((k2+x9.1)- 2))<|
                           M.join (fun (to1 : Int) =>
                               M.chk ((0:Int)≤k2∧k2<(code3.length:Int))<|
                               M.bif (decide (((atD code3 k2).Op)=20))
                                 (M.chk ((0 : Int) ≤ k2 ∧ k2 < (code3.length : Int)) <|
                                  M.bif (decide (((atD code3 k2).A)<0))
                                    (M.chk ((0:Int)≤k2∧k2<(code3.length:Int))<|
                                     M.chk (okI (k2+1))<|
                                     again3 ((k2+1),x9.2,(setD code3 k2 (⟨(atD code3 k2).Op,to1,(atD code3 k2).B,(atD code3 k2).C,(atD code3 k2).Imm⟩:AInstr))))
                                    (M.chk ((0 : Int) ≤ k2 ∧ k2 < (code3.length : Int)) <|
                                     M.bif (decide (((atD code3 k2).Op)=21))
                                       (M.chk ((0:Int)≤k2∧k2<(code3.length:Int))<|
                                        M.bif (decide (((atD code3 k2).B)<0))
                                          (M.chk ((0:Int)≤k2∧k2<(code3.length:Int))<|
                                           M.chk (okI (k2+1))<|
                                           again3 ((k2+1),x9.2,(setD code3 k2 (⟨(atD code3 k2).Op,(atD code3 k2).A,to1,(atD code3 k2).C,(atD code3 k2).Imm⟩:AInstr))))
                                          (M.chk (okI (k2+1))<|
                                           again3 ((k2+1),x9.2,code3)))
                                       (M.chk (okI (k2+1))<|
                                        again3 ((k2+1),x9.2,code3))))
                                 (M.chk ((0 : Int) ≤ k2 ∧ k2 < (code3.length : Int)) <|
                                  M.bif (decide (((atD code3 k2).Op)=21))
                                    (M.chk ((0:Int)≤k2∧k2<(code3.length:Int))<|
                                     M.bif (decide (((atD code3 k2).B)<0))
                                       (M.chk ((0:Int)≤k2∧k2<(code3.length:Int))<|
                                        M.chk (okI (k2+1))<|
                                        again3 ((k2+1),x9.2,(setD code3 k2 (⟨(atD code3 k2).Op,(atD code3 k2).A,to1,(atD code3 k2).C,(atD code3 k2).Imm⟩:AInstr))))
                                       (M.chk (okI (k2+1))<|
                                        again3 ((k2+1),x9.2,code3)))
                                    (M.chk (okI (k2+1))<|
                                     again3 ((k2+1),x9.2,code3)))) fun k3=>
                           M.bif (decide (((k2+x9.1)- 2)<0))
                             (M.chk (okI ((code3.length:Int)- 1))<|
                              k3 ((code3.length:Int)- 1))
                             (M.bif (decide ((code3.length:Int)≤((k2+x9.1)- 2)))
                                (M.chk (okI ((code3.length:Int)- 1))<|
                                 k3 ((code3.length:Int)- 1))
                                (k3 ((k2+x9.1)- 2))))
                          (M.ret ((⟨(atD params1 i1),x1.1,code3⟩:AFunc),c5))) (0,c4,(code2++([(⟨Op1,0,0,0,Imm1⟩:AInstr)]:List AInstr)))) fun k1=>
                M.call (draw_Next c3 12) fun x10=>
                M.bif (decide (x10.1=11))
                  (M.call (draw_Word x10.2) fun x11=>
                   k1 (x11.2,24,x11.1))
                  (k1 (x10.2,23,0)))) (x4.1,x4.2,code1))) (0,x1.2,([]:List AInstr))
def draw_Program (c1:DCodes) (funcs1:Int) (most1:Int):M (AProgram × DCodes):=
  M.call (draw_Next c1 funcs1) fun x1=>
  M.loop (fun again1 ((n1,c2,params1):Int × DCodes × List Int)=>
      M.bif (decide (0<n1))
        (M.call (draw_Next c2 4) fun x2=>
         M.chk (params1.length+([x2.1]:List Int).length<1000000000000)<|
         M.chk (okI (n1- 1))<|
         again1 ((n1- 1),x2.2,(params1++([x2.1]:List Int))))
        (M.loop (fun again2 ((params2, i1, c3, Funcs1) : List Int × Int × DCodes × List AFunc) =>
             M.bif (decide (i1<(params2.length:Int)))
               (M.chk (Funcs1.length<1000000000000)<|
                M.call (draw_function c3 i1 params2 most1) fun x3=>
                M.chk (Funcs1.length+([x3.1]:List AFunc).length<1000000000000)<|
                M.chk (okI (i1+1))<|
                again2 (params2,(i1+1),x3.2,(Funcs1++([x3.1]:List AFunc))))
               (M.ret ((⟨Funcs1⟩:AProgram),c3))) (params1,0,c2,([]:List AFunc)))) (x1.1,x1.2,([0]:List Int))
def r02_Size (n1:Int):M (Bool):=
  M.bif (decide (n1=1))
    (M.ret true)
    (M.bif (decide (n1=2))
       (M.ret true)
       (M.bif (decide (n1=4))
          (M.ret true)
          (M.bif (decide (n1=8))
             (M.ret true)
             (M.ret (decide (n1=16))))))
def r03_Power (n1:Int):M (Bool):=
  M.loop (fun again1 (k1:Int)=>
      M.bif (decide (k1≤16777216))
        (M.bif (decide (n1=k1))
           (M.ret true)
           (M.chk (okI (k1*2))<|
            again1 (k1*2)))
        (M.ret false)) 1
def r03_Slots (s1 : List ASlot) : M (Int) :=
  M.bif (decide (512<(s1.length:Int)))
    (M.ret 3)
    (M.loop (fun again1 (i1 : Int) =>
         M.bif (decide (i1<(s1.length:Int)))
           (M.chk ((0 : Int) ≤ i1 ∧ i1 < (s1.length : Int)) <|
            M.call (r02_Size ((atD s1 i1).Size)) fun x1=>
            M.bif (!x1)
              (M.ret 5)
              (M.chk ((0:Int)≤i1∧i1<(s1.length:Int))<|
               M.call (r03_Power ((atD s1 i1).Align)) fun x2=>
               M.bif (!x2)
                 (M.ret 5)
                 (M.chk (okI (i1+1))<|
                  again1 (i1+1))))
           (M.ret 0)) 0)
def r03_Align (s1:List ASlot):M (Int):=
  M.call (r03_Slots s1) fun x1=>
  M.bif (!decide (x1=0))
    (M.ret 16)
    (M.loop (fun again1 ((a1, i1) : Int × Int) =>
         M.bif (decide (i1<(s1.length:Int)))
           (M.chk ((0:Int)≤i1∧i1<(s1.length:Int))<|
            M.chk (okI (i1+1))<|
            again1 ((max a1 ((atD s1 i1).Align)),(i1+1)))
           (M.ret a1)) (16,0))
def r05_Align (p1:AProgram):M (Int):=
  M.loop (fun again1 ((a1,i1):Int × Int)=>
      M.bif (decide (i1<(p1.Funcs.length:Int)))
        (M.chk ((0:Int)≤i1∧i1<(p1.Funcs.length:Int))<|
         M.call (r03_Align ((atD p1.Funcs i1).Slots)) fun x1=>
         M.chk (okI (i1+1))<|
         again1 ((max a1 x1),(i1+1)))
        (M.ret a1)) (16,0)
def r24_Args (p1:AProgram) (i1:Int):M (Int):=
  M.chk ((0:Int)≤i1∧i1<(p1.Funcs.length:Int))<|
  M.loop (fun again1 ((n1, k1) : Int × Int) =>
      M.bif (decide (k1<(((atD p1.Funcs i1).Code).length:Int)))
        (M.chk ((0 : Int) ≤ k1 ∧ k1 < (((atD p1.Funcs i1).Code).length : Int)) <|
         M.bif (decide (((atD ((atD p1.Funcs i1).Code) k1).Op)=18))
           (M.chk ((0:Int)≤k1∧k1<(((atD p1.Funcs i1).Code).length:Int))<|
            M.chk (okI (((atD ((atD p1.Funcs i1).Code) k1).A)+1))<|
            M.chk (okI (k1+1))<|
            again1 ((max n1 (((atD ((atD p1.Funcs i1).Code) k1).A)+1)),(k1+1)))
           (M.bif (decide (((atD ((atD p1.Funcs i1).Code) k1).Op)=22))
              (M.chk ((0:Int)≤k1∧k1<(((atD p1.Funcs i1).Code).length:Int))<|
               M.chk ((0:Int)≤(atD ((atD p1.Funcs i1).Code) k1).A∧(atD ((atD p1.Funcs i1).Code) k1).A<(p1.Funcs.length:Int))<|
               M.chk (okI (k1+1))<|
               again1 ((max n1 ((atD p1.Funcs ((atD ((atD p1.Funcs i1).Code) k1).A)).Params)),(k1+1)))
              (M.chk (okI (k1+1))<|
               again1 (n1,(k1+1)))))
        (M.chk (okI (n1*16))<|
         M.ret (n1*16))) (0,0)
def r03_Bound (n1:Int):M (Bool):=
  M.bif (decide (0≤n1))
    (M.ret (decide (n1≤2147483647)))
    (M.ret false)
def r03_Up (n1:Int) (align1:Int):M (Int × Int):=
  M.call (r03_Bound n1) fun x1=>
  M.bif (!x1)
    (M.ret (0,4))
    (M.call (r03_Power align1) fun x2 =>
     M.bif (!x2)
       (M.ret (0,4))
       (M.join (fun (m1:Int)=>
            M.bif (decide (2147483647<m1))
              (M.ret (0,9))
              (M.ret (m1,0))) fun k1=>
        M.chk ((0:Int)≤n1∧(0:Int)<align1)<|
        M.bif (!decide ((n1 % align1)=0))
          (M.chk ((0:Int)≤n1∧(0:Int)<align1)<|
           M.chk (okI (n1- (n1 % align1)))<|
           M.chk (okI ((n1- (n1 % align1))+align1))<|
           k1 ((n1- (n1 % align1))+align1))
          (k1 n1)))
def r24_Baseline (p1:AProgram) (i1:Int) (align1:Int):M (ALayout × Int):=
  M.call (r24_Args p1 i1) fun x1=>
  M.chk ((0:Int)≤i1∧i1<(p1.Funcs.length:Int))<|
  M.loop (fun again1 ((end1, k1, Off1) : Int × Int × List Int) =>
      M.bif (decide (k1<(((atD p1.Funcs i1).Slots).length:Int)))
        (M.chk ((0 : Int) ≤ k1 ∧ k1 < (((atD p1.Funcs i1).Slots).length : Int)) <|
         M.call (r03_Up end1 ((atD ((atD p1.Funcs i1).Slots) k1).Align)) fun x2=>
         M.bif (!decide (x2.2=0))
           (M.ret ((⟨0,0,([]:List Int)⟩:ALayout),9))
           (M.chk ((0:Int)≤k1∧k1<(((atD p1.Funcs i1).Slots).length:Int))<|
            M.chk (okI ((2147483519:Int)- ((atD ((atD p1.Funcs i1).Slots) k1).Size)))<|
            M.bif (decide (((2147483519:Int)- ((atD ((atD p1.Funcs i1).Slots) k1).Size))<x2.1))
              (M.ret ((⟨0,0,([]:List Int)⟩:ALayout),9))
              (M.chk (Off1.length<1000000000000)<|
               M.chk (Off1.length+([x2.1]:List Int).length<1000000000000)<|
               M.chk ((0:Int)≤k1∧k1<(((atD p1.Funcs i1).Slots).length:Int))<|
               M.chk (okI (x2.1+((atD ((atD p1.Funcs i1).Slots) k1).Size)))<|
               M.chk (okI (k1+1))<|
               again1 ((x2.1+((atD ((atD p1.Funcs i1).Slots) k1).Size)),(k1+1),(Off1++([x2.1]:List Int))))))
        (M.call (r03_Up end1 align1) fun x3=>
         M.bif (!decide (x3.2=0))
           (M.ret ((⟨0,0,([]:List Int)⟩:ALayout),9))
           (M.bif (decide (2147483519<x3.1))
              (M.ret ((⟨0,0,([]:List Int)⟩:ALayout),9))
              (M.ret ((⟨x1,x3.1,Off1⟩:ALayout),0))))) (x1,0,([]:List Int))
def r26_Baselines (p1:AProgram) (align1:Int):M (List ALayout × Int):=
  M.loop (fun again1 ((i1,out1):Int × List ALayout)=>
      M.bif (decide (i1<(p1.Funcs.length:Int)))
        (M.call (r24_Baseline p1 i1 align1) fun x1=>
         M.bif (!decide (x1.2=0))
           (M.ret (([]:List ALayout),x1.2))
           (M.chk (out1.length+([x1.1]:List ALayout).length<1000000000000)<|
            M.chk (okI (i1+1))<|
            again1 ((i1+1),(out1++([x1.1]:List ALayout)))))
        (M.ret (out1,0))) (0,([]:List ALayout))
def pack_Args (p1:AProgram) (i1:Int):M (Int):=
  M.chk ((0:Int)≤i1∧i1<(p1.Funcs.length:Int))<|
  M.loop (fun again1 ((n1, x1) : Int × Int) =>
      M.bif (decide (x1<(((atD p1.Funcs i1).Code).length:Int)))
        (M.chk ((0 : Int) ≤ x1 ∧ x1 < (((atD p1.Funcs i1).Code).length : Int)) <|
         M.bif (decide (((atD ((atD p1.Funcs i1).Code) x1).Op)=18))
           (M.chk (okI (((atD ((atD p1.Funcs i1).Code) x1).A)+1))<|
            M.chk (okI (x1+1))<|
            again1 ((max n1 (((atD ((atD p1.Funcs i1).Code) x1).A)+1)),(x1+1)))
           (M.bif (decide (((atD ((atD p1.Funcs i1).Code) x1).Op)=22))
              (M.chk ((0:Int)≤(atD ((atD p1.Funcs i1).Code) x1).A∧(atD ((atD p1.Funcs i1).Code) x1).A<(p1.Funcs.length:Int))<|
               M.chk (okI (x1+1))<|
               again1 ((max n1 ((atD p1.Funcs ((atD ((atD p1.Funcs i1).Code) x1).A)).Params)),(x1+1)))
              (M.chk (okI (x1+1))<|
               again1 (n1,(x1+1)))))
        (M.chk (okI ((16:Int)*n1))<|
         M.ret ((16:Int)*n1))) (0,0)
def extent_bound (n1:Int):M (Bool):=
  M.bif (decide (0≤n1))
    (M.ret (decide (n1≤2147483647)))
    (M.ret false)
def extent_Power (n1:Int):M (Bool):=
  M.bif (decide (1≤n1))
    (M.bif (decide (n1≤16777216))
       (M.chk (okI (n1- 1))<|
        M.ret (decide ((Go.bits .and .i64 n1 (n1- 1))=0)))
       (M.ret false))
    (M.ret false)
def extent_up (n1:Int) (align1:Int):M (Int):=
  M.chk (okI (n1+align1))<|
  M.chk (okI ((n1+align1)- 1))<|
  M.chk (okI (align1- 1))<|
  M.ret (Go.bits .andNot .i64 ((n1+align1)- 1) (align1- 1))
def extent_limited (n1:Int):M (Int × Int):=
  M.bif (decide (2147483647<n1))
    (M.ret (0,9))
    (M.ret (n1,0))
def extent_Up (n1:Int) (align1:Int):M (Int × Int):=
  M.call (extent_bound n1) fun x1=>
  M.bif (!x1)
    (M.ret (0,4))
    (M.call (extent_Power align1) fun x2=>
     M.bif (!x2)
       (M.ret (0,4))
       (M.call (extent_up n1 align1) fun x3=>
        M.call (extent_limited x3) fun x4=>
        M.ret (x4.1,x4.2)))
def extent_Add (x1:Int) (y1:Int):M (Int × Int):=
  M.call (extent_bound x1) fun x2=>
  M.bif (!x2)
    (M.ret (0,4))
    (M.call (extent_bound y1) fun x3=>
     M.bif (!x3)
       (M.ret (0,4))
       (M.chk (okI (x1+y1))<|
        M.call (extent_limited (x1+y1)) fun x4=>
        M.ret (x4.1,x4.2)))
def pack_sized (y1:ALayout) (end1:Int) (align1:Int):M (ALayout × Int):=
  M.call (extent_Up end1 align1) fun x1=>
  M.join (fun (e1:Int)=>
      M.bif (!decide (e1=0))
        (M.ret ((⟨0,0,([]:List Int)⟩:ALayout),9))
        (M.ret ((⟨y1.Args,x1.1,y1.Off⟩:ALayout),0))) fun k1=>
  M.bif (decide (x1.2=0))
    (M.call (extent_Add x1.1 128) fun x2=>
     k1 x2.2)
    (k1 x1.2)
def pack_Baseline (p1:AProgram) (i1:Int) (align1:Int):M (ALayout × Int):=
  M.call (pack_Args p1 i1) fun x1=>
  M.chk ((0:Int)≤i1∧i1<(p1.Funcs.length:Int))<|
  M.loop (fun again1 ((end1,x2,own1):Int × Int × List Int)=>
      M.bif (decide (x2<(((atD p1.Funcs i1).Slots).length:Int)))
        (M.chk ((0 : Int) ≤ x2 ∧ x2 < (((atD p1.Funcs i1).Slots).length : Int)) <|
         M.call (extent_Up end1 ((atD ((atD p1.Funcs i1).Slots) x2).Align)) fun x3=>
         M.join (fun ((end2,e1):Int × Int)=>
             M.bif (!decide (e1=0))
               (M.ret ((⟨0,0,([]:List Int)⟩:ALayout),9))
               (M.chk (own1.length+([x3.1]:List Int).length<1000000000000)<|
                M.chk (okI (x2+1))<|
                again1 (end2,(x2+1),(own1++([x3.1]:List Int))))) fun k1=>
         M.bif (decide (x3.2=0))
           (M.call (extent_Add x3.1 ((atD ((atD p1.Funcs i1).Slots) x2).Size)) fun x4=>
            k1 (x4.1,x4.2))
           (k1 (end1,x3.2)))
        (M.call (pack_sized (⟨x1,0,own1⟩:ALayout) end1 align1) fun x5=>
         M.ret (x5.1,x5.2))) (x1,0,([]:List Int))
def layout_subject_interval (s1:Layout_subject) (x1:Int):M (AInterval):=
  M.chk ((0:Int)≤x1∧x1<(s1.y.Off.length:Int))<|
  M.chk ((0:Int)≤x1∧x1<(s1.f.Slots.length:Int))<|
  M.ret (⟨(atD s1.y.Off x1),(atD s1.f.Slots x1).Size⟩:AInterval)
def extent_right (a1:AInterval):M (Bool):=
  M.call (extent_bound a1.Off) fun x1=>
  M.bif x1
    (M.call (extent_bound a1.Size) fun x2=>
     M.bif x2
       (M.chk (okI (a1.Off+a1.Size))<|
        M.ret (decide ((a1.Off+a1.Size)≤2147483647)))
       (M.ret false))
    (M.ret false)
def extent_Inside (a1:AInterval) (size1:Int):M (Bool):=
  M.call (extent_right a1) fun x1=>
  M.bif x1
    (M.chk (okI (a1.Off+a1.Size))<|
     M.ret (decide ((a1.Off+a1.Size)≤size1)))
    (M.ret false)
def layout_subject_placed (s1:Layout_subject) (x1:Int):M (Bool):=
  M.chk ((0:Int)≤x1∧x1<(s1.y.Off.length:Int))<|
  M.bif (decide (s1.y.Args≤(atD s1.y.Off x1)))
    (M.chk ((0:Int)≤x1∧x1<(s1.f.Slots.length:Int))<|
     M.chk ((0:Int)≤(atD s1.y.Off x1)∧(0:Int)<((atD s1.f.Slots x1).Align))<|
     M.bif (decide (((atD s1.y.Off x1) % ((atD s1.f.Slots x1).Align))=0))
       (M.call (layout_subject_interval s1 x1) fun x2=>
        M.call (extent_Inside x2 s1.y.Size) fun x3=>
        M.ret x3)
       (M.ret false))
    (M.ret false)
def layout_subject_shape (s1:Layout_subject):M (Int):=
  M.call (pack_Baseline s1.p s1.i s1.align) fun x1=>
  M.bif (!decide (x1.2 = 0))
    (M.ret x1.2)
    (M.call (pack_Args s1.p s1.i) fun x2 =>
     M.bif (!decide (s1.y.Args = x2))
       (M.ret 13)
       (M.bif (!decide ((s1.y.Off.length : Int) = (s1.f.Slots.length : Int)))
          (M.ret 13)
          (M.loop (fun again1 (x3 : Int) =>
               M.bif (decide (x3<(s1.f.Slots.length:Int)))
                 (M.call (layout_subject_placed s1 x3) fun x4=>
                  M.bif (!x4)
                    (M.ret 13)
                    (M.chk (okI (x3+1))<|
                     again1 (x3+1)))
                 (M.chk ((0:Int)≤s1.y.Size∧(0:Int)<s1.align)<|
                  M.bif (!decide ((s1.y.Size % s1.align)=0))
                    (M.ret 13)
                    (M.bif (decide (s1.y.Size<s1.y.Args))
                       (M.ret 13)
                       (M.bif (decide (x1.1.Size<s1.y.Size))
                          (M.ret 13)
                          (M.ret 0))))) 0)))
def layout_Shape (p1:AProgram) (i1:Int) (align1:Int) (y1:ALayout):M (Int):=
  M.chk ((0:Int)≤i1∧i1<(p1.Funcs.length:Int))<|
  M.call (layout_subject_shape (⟨p1,i1,align1,(atD p1.Funcs i1),y1⟩:Layout_subject)) fun x1=>
  M.ret x1
def slices_Clone___api_Instr_api_Instr_ (s1:List AInstr):M (List AInstr):=
  M.both (s1=[])
    (M.ret ([]:List AInstr))
    (M.chk (([]:List AInstr).length+s1.length<1000000000000)<|
     M.ret (([]:List AInstr)++s1))
def lower_Frame (p1 : AProgram) (i1 : Int) (y1 : ALayout) : M (AFrame) :=
  M.chk ((0:Int)≤i1∧i1<(p1.Funcs.length:Int))<|
  M.call (slices_Clone___api_Instr_api_Instr_ ((atD p1.Funcs i1).Code)) fun x1=>
  M.call (lower_translations) fun x2=>
  M.loop (fun again1 ((x3, x4) : Int × List AInstr) =>
      M.bif (decide (x3 < (x1.length : Int)))
        (M.join (fun (x5 : List AInstr) =>
             M.chk (okI (x3+1))<|
             again1 ((x3+1),x5)) fun k1=>
         M.chk ((0:Int)≤x3∧x3<(x4.length:Int))<|
         M.bif (decide (((atD x4 x3).Op) = 0))
           (M.call (lower_same (atD p1.Funcs i1) y1 (atD x4 x3)) fun x6=>
            M.chk ((0:Int)≤x3∧x3<(x4.length:Int))<|
            k1 (setD x4 x3 x6))
           (M.bif (decide (((atD x4 x3).Op) = 1))
              (M.call (lower_same (atD p1.Funcs i1) y1 (atD x4 x3)) fun x7=>
               M.chk ((0:Int)≤x3∧x3<(x4.length:Int))<|
               k1 (setD x4 x3 x7))
              (M.bif (decide (((atD x4 x3).Op) = 2))
                 (M.call (lower_same (atD p1.Funcs i1) y1 (atD x4 x3)) fun x8=>
                  M.chk ((0:Int)≤x3∧x3<(x4.length:Int))<|
                  k1 (setD x4 x3 x8))
                 (M.bif (decide (((atD x4 x3).Op) = 3))
                    (M.call (lower_same (atD p1.Funcs i1) y1 (atD x4 x3)) fun x9=>
                     M.chk ((0:Int)≤x3∧x3<(x4.length:Int))<|
                     k1 (setD x4 x3 x9))
                    (M.bif (decide (((atD x4 x3).Op) = 4))
                       (M.call (lower_same (atD p1.Funcs i1) y1 (atD x4 x3)) fun x10=>
                        M.chk ((0:Int)≤x3∧x3<(x4.length:Int))<|
                        k1 (setD x4 x3 x10))
                       (M.bif (decide (((atD x4 x3).Op) = 5))
                          (M.call (lower_same (atD p1.Funcs i1) y1 (atD x4 x3)) fun x11=>
                           M.chk ((0:Int)≤x3∧x3<(x4.length:Int))<|
                           k1 (setD x4 x3 x11))
                          (M.bif (decide (((atD x4 x3).Op) = 6))
                             (M.call (lower_same (atD p1.Funcs i1) y1 (atD x4 x3)) fun x12=>
                              M.chk ((0:Int)≤x3∧x3<(x4.length:Int))<|
                              k1 (setD x4 x3 x12))
                             (M.bif (decide (((atD x4 x3).Op) = 7))
                                (M.call (lower_same (atD p1.Funcs i1) y1 (atD x4 x3)) fun x13=>
                                 M.chk ((0:Int)≤x3∧x3<(x4.length:Int))<|
                                 k1 (setD x4 x3 x13))
                                (M.bif (decide (((atD x4 x3).Op) = 8))
                                   (M.call (lower_same (atD p1.Funcs i1) y1 (atD x4 x3)) fun x14=>
                                    M.chk ((0:Int)≤x3∧x3<(x4.length:Int))<|
                                    k1 (setD x4 x3 x14))
                                   (M.bif (decide (((atD x4 x3).Op) = 9))
                                      (M.call (lower_same (atD p1.Funcs i1) y1 (atD x4 x3)) fun x15=>
                                       M.chk ((0:Int)≤x3∧x3<(x4.length:Int))<|
                                       k1 (setD x4 x3 x15))
                                      (M.bif (decide (((atD x4 x3).Op) = 10))
                                         (M.call (lower_same (atD p1.Funcs i1) y1 (atD x4 x3)) fun x16=>
                                          M.chk ((0:Int)≤x3∧x3<(x4.length:Int))<|
                                          k1 (setD x4 x3 x16))
                                         (M.bif (decide (((atD x4 x3).Op) = 11))
                                            (M.call (lower_same (atD p1.Funcs i1) y1 (atD x4 x3)) fun x17=>
                                             M.chk ((0:Int)≤x3∧x3<(x4.length:Int))<|
                                             k1 (setD x4 x3 x17))
                                            (M.bif (decide (((atD x4 x3).Op) = 12))
                                               (M.call (lower_same (atD p1.Funcs i1) y1 (atD x4 x3)) fun x18=>
                                                M.chk ((0:Int)≤x3∧x3<(x4.length:Int))<|
                                                k1 (setD x4 x3 x18))
                                               (M.bif (decide (((atD x4 x3).Op) = 13))
                                                  (M.call (lower_same (atD p1.Funcs i1) y1 (atD x4 x3)) fun x19=>
                                                   M.chk ((0:Int)≤x3∧x3<(x4.length:Int))<|
                                                   k1 (setD x4 x3 x19))
                                                  (M.bif (decide (((atD x4 x3).Op) = 14))
                                                     (M.call (lower_same (atD p1.Funcs i1) y1 (atD x4 x3)) fun x20=>
                                                      M.chk ((0:Int)≤x3∧x3<(x4.length:Int))<|
                                                      k1 (setD x4 x3 x20))
                                                     (M.bif (decide (((atD x4 x3).Op) = 15))
                                                        (M.call (lower_translations_1 (atD p1.Funcs i1) y1 (atD x4 x3)) fun x21=>
                                                         M.chk ((0:Int)≤x3∧x3<(x4.length:Int))<|
                                                         k1 (setD x4 x3 x21))
                                                        (M.bif (decide (((atD x4 x3).Op) = 16))
                                                           (M.call (lower_translations_2 (atD p1.Funcs i1) y1 (atD x4 x3)) fun x22=>
                                                            M.chk ((0:Int)≤x3∧x3<(x4.length:Int))<|
                                                            k1 (setD x4 x3 x22))
                                                           (M.bif (decide (((atD x4 x3).Op) = 17))
                                                              (M.call (lower_translations_3 (atD p1.Funcs i1) y1 (atD x4 x3)) fun x23=>
                                                               M.chk ((0:Int)≤x3∧x3<(x4.length:Int))<|
                                                               k1 (setD x4 x3 x23))
                                                              (M.bif (decide (((atD x4 x3).Op) = 18))
                                                                 (M.call (lower_translations_4 (atD p1.Funcs i1) y1 (atD x4 x3)) fun x24=>
                                                                  M.chk ((0:Int)≤x3∧x3<(x4.length:Int))<|
                                                                  k1 (setD x4 x3 x24))
                                                                 (M.bif (decide (((atD x4 x3).Op) = 19))
                                                                    (M.call (lower_translations_5 (atD p1.Funcs i1) y1 (atD x4 x3)) fun x25=>
                                                                     M.chk ((0:Int)≤x3∧x3<(x4.length:Int))<|
                                                                     k1 (setD x4 x3 x25))
                                                                    (M.bif (decide (((atD x4 x3).Op) = 20))
                                                                       (M.call (lower_same (atD p1.Funcs i1) y1 (atD x4 x3)) fun x26=>
                                                                        M.chk ((0:Int)≤x3∧x3<(x4.length:Int))<|
                                                                        k1 (setD x4 x3 x26))
                                                                       (M.bif (decide (((atD x4 x3).Op) = 21))
                                                                          (M.call (lower_same (atD p1.Funcs i1) y1 (atD x4 x3)) fun x27=>
                                                                           M.chk ((0:Int)≤x3∧x3<(x4.length:Int))<|
                                                                           k1 (setD x4 x3 x27))
                                                                          (M.bif (decide (((atD x4 x3).Op) = 22))
                                                                             (M.call (lower_same (atD p1.Funcs i1) y1 (atD x4 x3)) fun x28=>
                                                                              M.chk ((0:Int)≤x3∧x3<(x4.length:Int))<|
                                                                              k1 (setD x4 x3 x28))
                                                                             (M.bif (decide (((atD x4 x3).Op)=23))
                                                                                (M.call (lower_same (atD p1.Funcs i1) y1 (atD x4 x3)) fun x29=>
                                                                                 M.chk ((0:Int)≤x3∧x3<(x4.length:Int))<|
                                                                                 k1 (setD x4 x3 x29))
                                                                                (M.chk ((decide (((atD x4 x3).Op)=24))=true)<|
                                                                                 M.call (lower_same (atD p1.Funcs i1) y1 (atD x4 x3)) fun x30=>
                                                                                 M.chk ((0:Int)≤x3∧x3<(x4.length:Int))<|
                                                                                 k1 (setD x4 x3 x30))))))))))))))))))))))))))
        (M.ret (⟨(atD p1.Funcs i1).Params,y1.Size,x4⟩:AFrame))) (0,x1)
def lower_Target (p1:AProgram) (align1:Int) (l1:List ALayout):M (ATarget × Int):=
  M.bif (!decide ((l1.length:Int)=(p1.Funcs.length:Int)))
    (M.ret ((⟨0,([]:List AFrame)⟩:ATarget),13))
    (M.loop (fun again1 ((x1, own1) : Int × List AFrame) =>
         M.bif (decide (x1<(l1.length:Int)))
           (M.chk ((0:Int)≤x1∧x1<(l1.length:Int))<|
            M.call (layout_Shape p1 x1 align1 (atD l1 x1)) fun x2=>
            M.bif (!decide (x2=0))
              (M.ret ((⟨0,([]:List AFrame)⟩:ATarget),13))
              (M.call (lower_Frame p1 x1 (atD l1 x1)) fun x3=>
               M.chk (own1.length+([x3]:List AFrame).length<1000000000000)<|
               M.chk (okI (x1+1))<|
               again1 ((x1+1),(own1++([x3]:List AFrame)))))
           (M.ret ((⟨align1,own1⟩:ATarget),0))) (0,([]:List AFrame)))
def draw_Input (c1:DCodes):M (List Int × DCodes):=
  M.call (draw_Next c1 4) fun x1=>
  M.loop (fun again1 ((n1,c2,l1):Int × DCodes × List Int)=>
      M.bif (decide (0<n1))
        (M.call (draw_Word c2) fun x2=>
         M.chk (l1.length+([x2.1]:List Int).length<1000000000000)<|
         M.chk (okI (n1- 1))<|
         again1 ((n1- 1),x2.2,(l1++([x2.1]:List Int))))
        (M.ret (l1,c2))) (x1.1,x1.2,([]:List Int))
def r05_within (k1:Int) (n1:Int):M (Bool):=
  M.bif (decide (0≤k1))
    (M.ret (decide (k1<n1)))
    (M.ret false)
def r05_Operands (op1 : Int) : M (Bool × Bool × Bool × Bool) :=
  M.bif (decide (op1 = 0))
    (M.ret (true,false,false,true))
    (M.join (fun (x1 : Bool) =>
         M.bif x1
           (M.ret (true,true,false,false))
           (M.join (fun (x2 : Bool) =>
                M.bif x2
                  (M.ret (true,true,true,false))
                  (M.join (fun (x3:Bool)=>
                       M.bif x3
                         (M.ret (true,false,false,false))
                         (M.bif (decide (op1=24))
                            (M.ret (false,false,false,true))
                            (M.ret (false,false,false,false)))) fun k3=>
                   M.bif (decide (op1=13))
                     (k3 (decide (op1=13)))
                     (M.bif (decide (op1=14))
                        (k3 (decide (op1=14)))
                        (M.bif (decide (op1=20))
                           (k3 (decide (op1=20)))
                           (k3 (decide (op1=22))))))) fun k2=>
            M.bif (decide (op1 = 2))
              (k2 (decide (op1=2)))
              (M.bif (decide (op1 = 3))
                 (k2 (decide (op1=3)))
                 (M.bif (decide (op1 = 4))
                    (k2 (decide (op1=4)))
                    (M.bif (decide (op1 = 5))
                       (k2 (decide (op1=5)))
                       (M.bif (decide (op1 = 6))
                          (k2 (decide (op1=6)))
                          (M.bif (decide (op1=7))
                             (k2 (decide (op1=7)))
                             (M.bif (decide (op1=8))
                                (k2 (decide (op1=8)))
                                (M.bif (decide (op1=9))
                                   (k2 (decide (op1=9)))
                                   (M.bif (decide (op1=10))
                                      (k2 (decide (op1=10)))
                                      (k2 (decide (op1=11))))))))))))) fun k1=>
     M.bif (decide (op1 = 1))
       (k1 (decide (op1=1)))
       (M.bif (decide (op1 = 12))
          (k1 (decide (op1=12)))
          (M.bif (decide (op1 = 15))
             (k1 (decide (op1=15)))
             (M.bif (decide (op1=16))
                (k1 (decide (op1=16)))
                (M.bif (decide (op1=17))
                   (k1 (decide (op1=17)))
                   (M.bif (decide (op1=18))
                      (k1 (decide (op1=18)))
                      (M.bif (decide (op1=19))
                         (k1 (decide (op1=19)))
                         (k1 (decide (op1=21))))))))))
def r05_register (n1:Int):M (Bool):=
  M.bif (decide (0≤n1))
    (M.ret (decide (n1<8)))
    (M.ret false)
def r05_operands (p1 : AProgram) (f1 : AFunc) (x1 : AInstr) : M (Bool) :=
  M.join (fun (x2 : Bool) =>
      M.bif x2
        (M.call (r05_register x1.A) fun x3=>
         M.ret x3)
        (M.join (fun (x4 : Bool) =>
             M.bif x4
               (M.call (r05_register x1.A) fun x5=>
                M.bif x5
                  (M.call (r05_register x1.B) fun x6=>
                   M.ret x6)
                  (M.ret false))
               (M.join (fun (x7 : Bool) =>
                    M.bif x7
                      (M.call (r05_register x1.A) fun x8=>
                       M.bif x8
                         (M.call (r05_register x1.B) fun x9=>
                          M.bif x9
                            (M.call (r05_register x1.C) fun x10=>
                             M.ret x10)
                            (M.ret false))
                         (M.ret false))
                      (M.bif (decide (x1.Op = 15))
                         (M.call (r05_register x1.A) fun x11=>
                          M.bif x11
                            (M.call (r05_within x1.B (f1.Slots.length:Int)) fun x12=>
                             M.ret x12)
                            (M.ret false))
                         (M.bif (decide (x1.Op = 16))
                            (M.call (r05_within x1.A (f1.Slots.length:Int)) fun x13=>
                             M.bif x13
                               (M.call (r05_register x1.B) fun x14=>
                                M.ret x14)
                               (M.ret false))
                            (M.bif (decide (x1.Op = 17))
                               (M.call (r05_within x1.A (f1.Slots.length:Int)) fun x15=>
                                M.bif x15
                                  (M.call (r05_within x1.B (f1.Slots.length:Int)) fun x16=>
                                   M.ret x16)
                                  (M.ret false))
                               (M.bif (decide (x1.Op = 18))
                                  (M.call (r05_within x1.A 8) fun x17=>
                                   M.bif x17
                                     (M.call (r05_register x1.B) fun x18=>
                                      M.ret x18)
                                     (M.ret false))
                                  (M.bif (decide (x1.Op = 19))
                                     (M.call (r05_register x1.A) fun x19=>
                                      M.bif x19
                                        (M.call (r05_within x1.B f1.Params) fun x20=>
                                         M.ret x20)
                                        (M.ret false))
                                     (M.bif (decide (x1.Op = 21))
                                        (M.call (r05_register x1.A) fun x21=>
                                         M.ret x21)
                                        (M.bif (decide (x1.Op=22))
                                           (M.call (r05_within x1.A (p1.Funcs.length:Int)) fun x22=>
                                            M.ret x22)
                                           (M.ret true))))))))) fun k3=>
                M.bif (decide (x1.Op = 2))
                  (k3 (decide (x1.Op=2)))
                  (M.bif (decide (x1.Op = 3))
                     (k3 (decide (x1.Op=3)))
                     (M.bif (decide (x1.Op = 4))
                        (k3 (decide (x1.Op=4)))
                        (M.bif (decide (x1.Op = 5))
                           (k3 (decide (x1.Op=5)))
                           (M.bif (decide (x1.Op = 6))
                              (k3 (decide (x1.Op=6)))
                              (M.bif (decide (x1.Op=7))
                                 (k3 (decide (x1.Op=7)))
                                 (M.bif (decide (x1.Op=8))
                                    (k3 (decide (x1.Op=8)))
                                    (M.bif (decide (x1.Op=9))
                                       (k3 (decide (x1.Op=9)))
                                       (M.bif (decide (x1.Op=10))
                                          (k3 (decide (x1.Op=10)))
                                          (k3 (decide (x1.Op=11))))))))))))) fun k2=>
         M.bif (decide (x1.Op=1))
           (k2 (decide (x1.Op=1)))
           (k2 (decide (x1.Op=12))))) fun k1=>
  M.bif (decide (x1.Op=0))
    (k1 (decide (x1.Op=0)))
    (M.bif (decide (x1.Op=13))
       (k1 (decide (x1.Op=13)))
       (k1 (decide (x1.Op=14))))
def r05_CheckInstr (p1 : AProgram) (i1 : Int) (k1 : Int) : M (Int) :=
  M.call (r05_within i1 (p1.Funcs.length:Int)) fun x1=>
  M.bif (!x1)
    (M.ret 4)
    (M.chk ((0 : Int) ≤ i1 ∧ i1 < (p1.Funcs.length : Int)) <|
     M.call (r05_within k1 (((atD p1.Funcs i1).Code).length:Int)) fun x2=>
     M.bif (!x2)
       (M.ret 4)
       (M.chk ((0 : Int) ≤ i1 ∧ i1 < (p1.Funcs.length : Int)) <|
        M.chk ((0:Int)≤k1∧k1<(((atD p1.Funcs i1).Code).length:Int))<|
        M.call (r05_within ((atD ((atD p1.Funcs i1).Code) k1).Op) 25) fun x3=>
        M.bif (!x3)
          (M.ret 4)
          (M.call (r05_Operands ((atD ((atD p1.Funcs i1).Code) k1).Op)) fun x4 =>
           M.join (fun (x5 : Bool) =>
               M.bif x5
                 (M.ret 2)
                 (M.call (r05_operands p1 (atD p1.Funcs i1) (atD ((atD p1.Funcs i1).Code) k1)) fun x6 =>
                  M.bif (!x6)
                    (M.ret 4)
                    (M.join (fun (_ : Unit) =>
                         M.bif (decide (((atD ((atD p1.Funcs i1).Code) k1).Op)=20))
                           (M.call (r05_within ((atD ((atD p1.Funcs i1).Code) k1).A) (((atD p1.Funcs i1).Code).length:Int)) fun x7=>
                            M.bif (!x7)
                              (M.ret 6)
                              (M.bif (decide (((atD ((atD p1.Funcs i1).Code) k1).Op)=21))
                                 (M.call (r05_within ((atD ((atD p1.Funcs i1).Code) k1).B) (((atD p1.Funcs i1).Code).length:Int)) fun x8=>
                                  M.bif (!x8)
                                    (M.ret 6)
                                    (M.ret 0))
                                 (M.ret 0)))
                           (M.bif (decide (((atD ((atD p1.Funcs i1).Code) k1).Op)=21))
                              (M.call (r05_within ((atD ((atD p1.Funcs i1).Code) k1).B) (((atD p1.Funcs i1).Code).length:Int)) fun x9=>
                               M.bif (!x9)
                                 (M.ret 6)
                                 (M.ret 0))
                              (M.ret 0))) fun k3=>
                     M.bif (decide (((atD ((atD p1.Funcs i1).Code) k1).Op)=17))
                       (M.chk ((0:Int)≤(atD ((atD p1.Funcs i1).Code) k1).A∧(atD ((atD p1.Funcs i1).Code) k1).A<(((atD p1.Funcs i1).Slots).length:Int))<|
                        M.chk ((0:Int)≤(atD ((atD p1.Funcs i1).Code) k1).B∧(atD ((atD p1.Funcs i1).Code) k1).B<(((atD p1.Funcs i1).Slots).length:Int))<|
                        M.bif (!decide (((atD ((atD p1.Funcs i1).Slots) ((atD ((atD p1.Funcs i1).Code) k1).A)).Size)=((atD ((atD p1.Funcs i1).Slots) ((atD ((atD p1.Funcs i1).Code) k1).B)).Size)))
                          (M.ret 5)
                          (k3 ()))
                       (k3 ())))) fun k2=>
           M.bif (!x4.1)
             (M.bif (!decide (((atD ((atD p1.Funcs i1).Code) k1).A)=0))
                (k2 true)
                (M.bif (!x4.2.1)
                   (M.bif (!decide (((atD ((atD p1.Funcs i1).Code) k1).B)=0))
                      (k2 true)
                      (M.bif (!x4.2.2.1)
                         (M.bif (!decide (((atD ((atD p1.Funcs i1).Code) k1).C)=0))
                            (k2 true)
                            (M.bif (!x4.2.2.2)
                               (k2 (!decide (((atD ((atD p1.Funcs i1).Code) k1).Imm)=0)))
                               (k2 false)))
                         (M.bif (!x4.2.2.2)
                            (k2 (!decide (((atD ((atD p1.Funcs i1).Code) k1).Imm)=0)))
                            (k2 false))))
                   (M.bif (!x4.2.2.1)
                      (M.bif (!decide (((atD ((atD p1.Funcs i1).Code) k1).C)=0))
                         (k2 true)
                         (M.bif (!x4.2.2.2)
                            (k2 (!decide (((atD ((atD p1.Funcs i1).Code) k1).Imm)=0)))
                            (k2 false)))
                      (M.bif (!x4.2.2.2)
                         (k2 (!decide (((atD ((atD p1.Funcs i1).Code) k1).Imm)=0)))
                         (k2 false)))))
             (M.bif (!x4.2.1)
                (M.bif (!decide (((atD ((atD p1.Funcs i1).Code) k1).B)=0))
                   (k2 true)
                   (M.bif (!x4.2.2.1)
                      (M.bif (!decide (((atD ((atD p1.Funcs i1).Code) k1).C)=0))
                         (k2 true)
                         (M.bif (!x4.2.2.2)
                            (k2 (!decide (((atD ((atD p1.Funcs i1).Code) k1).Imm)=0)))
                            (k2 false)))
                      (M.bif (!x4.2.2.2)
                         (k2 (!decide (((atD ((atD p1.Funcs i1).Code) k1).Imm)=0)))
                         (k2 false))))
                (M.bif (!x4.2.2.1)
                   (M.bif (!decide (((atD ((atD p1.Funcs i1).Code) k1).C)=0))
                      (k2 true)
                      (M.bif (!x4.2.2.2)
                         (k2 (!decide (((atD ((atD p1.Funcs i1).Code) k1).Imm)=0)))
                         (k2 false)))
                   (M.bif (!x4.2.2.2)
                      (k2 (!decide (((atD ((atD p1.Funcs i1).Code) k1).Imm)=0)))
                      (k2 false)))))))
def r05_Terminator (op1:Int):M (Bool):=
  M.bif (decide (op1=20))
    (M.ret true)
    (M.bif (decide (op1=23))
       (M.ret true)
       (M.ret (decide (op1=24))))
def r05_CheckFunc (p1 : AProgram) (i1 : Int) : M (Int) :=
  M.call (r05_within i1 (p1.Funcs.length:Int)) fun x1=>
  M.bif (!x1)
    (M.ret 4)
    (M.chk ((0 : Int) ≤ i1 ∧ i1 < (p1.Funcs.length : Int)) <|
     M.bif (decide (1024 < (((atD p1.Funcs i1).Code).length : Int)))
       (M.ret 3)
       (M.call (r03_Slots ((atD p1.Funcs i1).Slots)) fun x2 =>
        M.bif (!decide (x2 = 0))
          (M.ret x2)
          (M.bif (decide (((atD p1.Funcs i1).Params)<0))
             (M.ret 4)
             (M.bif (decide (8<((atD p1.Funcs i1).Params)))
                (M.ret 4)
                (M.loop (fun again1 (k1 : Int) =>
                     M.bif (decide (k1<(((atD p1.Funcs i1).Code).length:Int)))
                       (M.call (r05_CheckInstr p1 i1 k1) fun x3=>
                        M.bif (!decide (x3=0))
                          (M.ret x3)
                          (M.chk (okI (k1+1))<|
                           again1 (k1+1)))
                       (M.bif (decide ((((atD p1.Funcs i1).Code).length:Int)=0))
                          (M.ret 6)
                          (M.chk (okI ((((atD p1.Funcs i1).Code).length:Int)- 1))<|
                           M.chk ((0:Int)≤((((atD p1.Funcs i1).Code).length:Int)- 1)∧((((atD p1.Funcs i1).Code).length:Int)- 1)<(((atD p1.Funcs i1).Code).length:Int))<|
                           M.call (r05_Terminator ((atD ((atD p1.Funcs i1).Code) ((((atD p1.Funcs i1).Code).length:Int)- 1)).Op)) fun x4=>
                           M.bif (!x4)
                             (M.ret 6)
                             (M.ret 0)))) 0)))))
def r05_Check (p1 : AProgram) : M (Int) :=
  M.bif (decide (80 < (p1.Funcs.length : Int)))
    (M.ret 3)
    (M.bif (decide ((p1.Funcs.length:Int)=0))
       (M.ret 4)
       (M.chk ((0 : Int) ≤ 0 ∧ 0 < (p1.Funcs.length : Int)) <|
        M.bif (!decide (((atD p1.Funcs 0).Params)=0))
          (M.ret 7)
          (M.loop (fun again1 (i1 : Int) =>
               M.bif (decide (i1<(p1.Funcs.length:Int)))
                 (M.call (r05_CheckFunc p1 i1) fun x1=>
                  M.bif (!decide (x1=0))
                    (M.ret x1)
                    (M.chk (okI (i1+1))<|
                     again1 (i1+1)))
                 (M.ret 0)) 0)))
def r08_machine_enter (m1:R08machine) (f1:Int):M (R08machine):=
  M.chk (m1.acts.length<1000000000000)<|
  M.chk ((0:Int)≤f1∧f1<(m1.p.Funcs.length:Int))<|
  M.chk ((0:Int)≤(((atD m1.p.Funcs f1).Slots).length:Int)∧(((atD m1.p.Funcs f1).Slots).length:Int)<1000000000000)<|
  M.chk ((0:Int)≤8∧(8:Int)<1000000000000)<|
  M.chk (m1.acts.length+([(⟨f1,0,(repD (((atD m1.p.Funcs f1).Slots).length:Int):List R08cell),(repD 8:List R08cell)⟩:R08activation)]:List R08activation).length<1000000000000)<|
  M.ret (⟨m1.p,m1.regs,(m1.acts++([(⟨f1,0,(repD (((atD m1.p.Funcs f1).Slots).length:Int):List R08cell),(repD 8:List R08cell)⟩:R08activation)]:List R08activation)),m1.input,(max m1.deep ((m1.acts++([(⟨f1,0,(repD (((atD m1.p.Funcs f1).Slots).length:Int):List R08cell),(repD 8:List R08cell)⟩:R08activation)]:List R08activation)).length:Int)),m1.done,m1.out⟩:R08machine)
def r08_machine_end (m1:R08machine) (kind1:Int):M (R08machine):=
  M.ret (⟨m1.p,m1.regs,m1.acts,m1.input,m1.deep,true,(⟨kind1,m1.out.Code,m1.out.Result,m1.out.Trace,m1.out.Steps⟩:AOutcome)⟩:R08machine)
def r08_machine_read (m1:R08machine) (c1:R08cell):M (AValue × R08machine):=
  M.bif (!c1.ok)
    (M.call (r08_machine_end m1 3) fun x1=>
     M.ret (c1.v,x1))
    (M.ret (c1.v,m1))
def r02_Bytes (x1:AValue) (size1:Int):M (List Int):=
  M.loop (fun again1 ((k1, out1) : Int × List Int) =>
      M.call (r02_Size size1) fun x2=>
      M.bif x2
        (M.bif (decide (k1 < size1))
           (M.bif (decide (k1<8))
              (M.chk (okI ((8:Int)*k1))<|
               M.chk ((0:Int)≤((8:Int)*k1)∧((8:Int)*k1)≤64)<|
               M.chk (out1.length+([(IntKind.u8.wrap (x1.Lo / 2 ^ ((8:Int)*k1).toNat))]:List Int).length<1000000000000)<|
               M.chk (okI (k1+1))<|
               again1 ((k1+1),(out1++([(IntKind.u8.wrap (x1.Lo / 2 ^ ((8:Int)*k1).toNat))]:List Int))))
              (M.chk (okI (k1- 8))<|
               M.chk (okI ((8:Int)*(k1- 8)))<|
               M.chk ((0:Int)≤((8:Int)*(k1- 8))∧((8:Int)*(k1- 8))≤64)<|
               M.chk (out1.length+([(IntKind.u8.wrap (x1.Hi / 2 ^ ((8:Int)*(k1- 8)).toNat))]:List Int).length<1000000000000)<|
               M.chk (okI (k1+1))<|
               again1 ((k1+1),(out1++([(IntKind.u8.wrap (x1.Hi / 2 ^ ((8:Int)*(k1- 8)).toNat))]:List Int)))))
           (M.ret out1))
        (M.ret out1)) (0,([]:List Int))
def r02_FromBytes (b1:List Int):M (AValue):=
  M.loop (fun again1 ((k1, Lo1, Hi1) : Int × Int × Int) =>
      M.bif (decide (k1<(b1.length:Int)))
        (M.bif (decide (k1 < 16))
           (M.bif (decide (k1<8))
              (M.chk ((0:Int)≤k1∧k1<(b1.length:Int))<|
               M.chk ((0:Int)≤(atD b1 k1)∧(atD b1 k1)≤18446744073709551615)<|
               M.chk (okI ((8:Int)*k1))<|
               M.chk ((0:Int)≤((8:Int)*k1)∧((8:Int)*k1)≤64∧(0≤(atD b1 k1)*2 ^ ((8:Int)*k1).toNat∧(atD b1 k1)*2 ^ ((8:Int)*k1).toNat≤18446744073709551615))<|
               M.chk (okI (k1+1))<|
               again1 ((k1+1),(Go.bits .or .u64 Lo1 ((atD b1 k1)*2 ^ ((8:Int)*k1).toNat)),Hi1))
              (M.chk ((0:Int)≤k1∧k1<(b1.length:Int))<|
               M.chk ((0:Int)≤(atD b1 k1)∧(atD b1 k1)≤18446744073709551615)<|
               M.chk (okI (k1- 8))<|
               M.chk (okI ((8:Int)*(k1- 8)))<|
               M.chk ((0:Int)≤((8:Int)*(k1- 8))∧((8:Int)*(k1- 8))≤64∧(0≤(atD b1 k1)*2 ^ ((8:Int)*(k1- 8)).toNat∧(atD b1 k1)*2 ^ ((8:Int)*(k1- 8)).toNat≤18446744073709551615))<|
               M.chk (okI (k1+1))<|
               again1 ((k1+1),Lo1,(Go.bits .or .u64 Hi1 ((atD b1 k1)*2 ^ ((8:Int)*(k1- 8)).toNat)))))
           (M.ret (⟨Lo1,Hi1⟩:AValue)))
        (M.ret (⟨Lo1,Hi1⟩:AValue))) (0,0,0)
def r02_Truncate (x1:AValue) (size1:Int):M (AValue):=
  M.call (r02_Bytes x1 size1) fun x2=>
  M.call (r02_FromBytes x2) fun x3=>
  M.ret x3
def r08_machine_memory (m1:R08machine) (x1:AInstr):M (Bool × R08machine):=
  M.chk (okI ((m1.acts.length:Int)- 1))<|
  M.chk ((0:Int)≤((m1.acts.length:Int)- 1)∧((m1.acts.length:Int)- 1)<(m1.acts.length:Int))<|
  M.chk ((0:Int)≤(atD m1.acts ((m1.acts.length:Int)- 1)).f∧(atD m1.acts ((m1.acts.length:Int)- 1)).f<(m1.p.Funcs.length:Int))<|
  M.join (fun ((m2,slots1,args1):R08machine × List R08cell × List R08cell)=>
      M.chk (m2.acts.length<1000000000000)<|
      M.chk ((0:Int)≤((m1.acts.length:Int)- 1)∧((m1.acts.length:Int)- 1)<(m2.acts.length:Int))<|
      M.ret (true,(⟨m2.p,m2.regs,(setD m2.acts ((m1.acts.length:Int)- 1) (⟨(atD m1.acts ((m1.acts.length:Int)- 1)).f,(atD m1.acts ((m1.acts.length:Int)- 1)).at_,slots1,args1⟩:R08activation)),m2.input,m2.deep,m2.done,m2.out⟩:R08machine))) fun k1=>
  M.bif (decide (x1.Op = 15))
    (M.chk ((0:Int)≤x1.B∧x1.B<(((atD m1.acts ((m1.acts.length:Int)- 1)).slots).length:Int))<|
     M.call (r08_machine_read m1 (atD ((atD m1.acts ((m1.acts.length:Int)- 1)).slots) x1.B)) fun x2=>
     M.bif (!x2.2.done)
       (M.chk ((0:Int)≤x1.A∧x1.A<8)<|
        k1 ((⟨x2.2.p,(Arr8AValue.set x2.2.regs x1.A x2.1),x2.2.acts,x2.2.input,x2.2.deep,x2.2.done,x2.2.out⟩:R08machine),(atD m1.acts ((m1.acts.length:Int)- 1)).slots,(atD m1.acts ((m1.acts.length:Int)- 1)).args))
       (k1 (x2.2,(atD m1.acts ((m1.acts.length:Int)- 1)).slots,(atD m1.acts ((m1.acts.length:Int)- 1)).args)))
    (M.bif (decide (x1.Op = 16))
       (M.chk (((atD m1.acts ((m1.acts.length:Int)- 1)).slots).length<1000000000000)<|
        M.chk ((0:Int)≤x1.B∧x1.B<8)<|
        M.chk ((0:Int)≤x1.A∧x1.A<(((atD m1.p.Funcs ((atD m1.acts ((m1.acts.length:Int)- 1)).f)).Slots).length:Int))<|
        M.call (r02_Truncate (Arr8AValue.at_ m1.regs x1.B) ((atD ((atD m1.p.Funcs ((atD m1.acts ((m1.acts.length:Int)- 1)).f)).Slots) x1.A).Size)) fun x3=>
        M.chk ((0:Int)≤x1.A∧x1.A<(((atD m1.acts ((m1.acts.length:Int)- 1)).slots).length:Int))<|
        k1 (m1,(setD ((atD m1.acts ((m1.acts.length:Int)- 1)).slots) x1.A (⟨x3,true⟩:R08cell)),(atD m1.acts ((m1.acts.length:Int)- 1)).args))
       (M.bif (decide (x1.Op = 17))
          (M.chk ((0:Int)≤x1.B∧x1.B<(((atD m1.acts ((m1.acts.length:Int)- 1)).slots).length:Int))<|
           M.call (r08_machine_read m1 (atD ((atD m1.acts ((m1.acts.length:Int)- 1)).slots) x1.B)) fun x4=>
           M.bif (!x4.2.done)
             (M.chk (((atD m1.acts ((m1.acts.length:Int)- 1)).slots).length<1000000000000)<|
              M.chk ((0:Int)≤x1.A∧x1.A<(((atD m1.acts ((m1.acts.length:Int)- 1)).slots).length:Int))<|
              k1 (x4.2,(setD ((atD m1.acts ((m1.acts.length:Int)- 1)).slots) x1.A (⟨x4.1,true⟩:R08cell)),(atD m1.acts ((m1.acts.length:Int)- 1)).args))
             (k1 (x4.2,(atD m1.acts ((m1.acts.length:Int)- 1)).slots,(atD m1.acts ((m1.acts.length:Int)- 1)).args)))
          (M.bif (decide (x1.Op = 18))
             (M.chk (((atD m1.acts ((m1.acts.length:Int)- 1)).args).length<1000000000000)<|
              M.chk ((0:Int)≤x1.B∧x1.B<8)<|
              M.chk ((0:Int)≤x1.A∧x1.A<(((atD m1.acts ((m1.acts.length:Int)- 1)).args).length:Int))<|
              k1 (m1,(atD m1.acts ((m1.acts.length:Int)- 1)).slots,(setD ((atD m1.acts ((m1.acts.length:Int)- 1)).args) x1.A (⟨(Arr8AValue.at_ m1.regs x1.B),true⟩:R08cell))))
             (M.bif (decide (x1.Op = 19))
                (M.chk (okI (((m1.acts.length:Int)- 1)- 1))<|
                 M.chk ((0:Int)≤(((m1.acts.length:Int)- 1)- 1)∧(((m1.acts.length:Int)- 1)- 1)<(m1.acts.length:Int))<|
                 M.chk ((0:Int)≤x1.B∧x1.B<(((atD m1.acts (((m1.acts.length:Int)- 1)- 1)).args).length:Int))<|
                 M.call (r08_machine_read m1 (atD ((atD m1.acts (((m1.acts.length:Int)- 1)- 1)).args) x1.B)) fun x5=>
                 M.bif (!x5.2.done)
                   (M.chk ((0:Int)≤x1.A∧x1.A<8)<|
                    k1 ((⟨x5.2.p,(Arr8AValue.set x5.2.regs x1.A x5.1),x5.2.acts,x5.2.input,x5.2.deep,x5.2.done,x5.2.out⟩:R08machine),(atD m1.acts ((m1.acts.length:Int)- 1)).slots,(atD m1.acts ((m1.acts.length:Int)- 1)).args))
                   (k1 (x5.2,(atD m1.acts ((m1.acts.length:Int)- 1)).slots,(atD m1.acts ((m1.acts.length:Int)- 1)).args)))
                (M.ret (false,m1))))))
def r02_Pair (x1:AValue) (y1:AValue):M (AValue):=
  M.ret (⟨x1.Lo,y1.Lo⟩:AValue)
def r02_High (x1:AValue):M (AValue):=
  M.ret (⟨x1.Hi,0⟩:AValue)
def r02_bit (x1:AValue) (k1:Int):M (Int):=
  M.bif (decide (k1<64))
    (M.chk ((0:Int)≤k1∧k1≤64)<|
     M.ret (Go.bits .and .u64 (x1.Lo / 2 ^ k1.toNat) 1))
    (M.chk (okI (k1- 64))<|
     M.chk ((0:Int)≤(k1- 64)∧(k1- 64)≤64)<|
     M.ret (Go.bits .and .u64 (x1.Hi / 2 ^ (k1- 64).toNat) 1))
def r02_set (x1:AValue) (k1:Int):M (AValue):=
  M.bif (decide (k1<64))
    (M.chk ((0:Int)≤k1∧k1≤64∧(0≤(1:Int)*2 ^ k1.toNat∧(1:Int)*2 ^ k1.toNat≤18446744073709551615))<|
     M.ret (⟨(Go.bits .or .u64 x1.Lo ((1:Int)*2 ^ k1.toNat)),x1.Hi⟩:AValue))
    (M.chk (okI (k1- 64))<|
     M.chk ((0:Int)≤(k1- 64)∧(k1- 64)≤64∧(0≤(1:Int)*2 ^ (k1- 64).toNat∧(1:Int)*2 ^ (k1- 64).toNat≤18446744073709551615))<|
     M.ret (⟨x1.Lo,(Go.bits .or .u64 x1.Hi ((1:Int)*2 ^ (k1- 64).toNat))⟩:AValue))
def r02_Add (x1:AValue) (y1:AValue):M (AValue):=
  M.loop (fun again1 ((carry1,k1,out1):Int × Int × AValue)=>
      M.bif (decide (k1<128))
        (M.call (r02_bit x1 k1) fun x2=>
         M.call (r02_bit y1 k1) fun x3=>
         M.chk ((0:Int)≤x2+x3∧x2+x3≤18446744073709551615)<|
         M.chk ((0:Int)≤(x2+x3)+carry1∧(x2+x3)+carry1≤18446744073709551615)<|
         M.bif (decide ((Go.bits .and .u64 ((x2+x3)+carry1) 1)=1))
           (M.call (r02_set out1 k1) fun x4=>
            M.chk ((0:Int)≤1∧(1:Int)≤64)<|
            M.chk (okI (k1+1))<|
            again1 ((((x2+x3)+carry1) / 2 ^ (1:Int).toNat),(k1+1),x4))
           (M.chk ((0:Int)≤1∧(1:Int)≤64)<|
            M.chk (okI (k1+1))<|
            again1 ((((x2+x3)+carry1) / 2 ^ (1:Int).toNat),(k1+1),out1)))
        (M.ret out1)) (0,0,(⟨0,0⟩:AValue))
def r02_Sub (x1:AValue) (y1:AValue):M (AValue):=
  M.call (r02_Add x1 (⟨(Go.bits .xor .u64 18446744073709551615 y1.Lo),(Go.bits .xor .u64 18446744073709551615 y1.Hi)⟩:AValue)) fun x2=>
  M.call (r02_Add x2 (⟨1,0⟩:AValue)) fun x3=>
  M.ret x3
def r02_twice (x1:AValue):M (AValue):=
  M.chk ((0:Int)≤1∧(1:Int)≤64)<|
  M.chk ((0:Int)≤1∧(1:Int)≤64)<|
  M.chk ((0:Int)≤63∧(63:Int)≤64)<|
  M.ret (⟨(IntKind.u64.wrap (x1.Lo*2 ^ (1:Int).toNat)),(Go.bits .or .u64 (IntKind.u64.wrap (x1.Hi*2 ^ (1:Int).toNat)) (x1.Lo / 2 ^ (63:Int).toNat))⟩:AValue)
def r02_Mul (x1:AValue) (y1:AValue):M (AValue):=
  M.loop (fun again1 ((k1,out1):Int × AValue)=>
      M.bif (decide (0≤k1))
        (M.call (r02_twice out1) fun x2=>
         M.call (r02_bit y1 k1) fun x3=>
         M.bif (decide (x3=1))
           (M.call (r02_Add x2 x1) fun x4=>
            M.chk (okI (k1- 1))<|
            again1 ((k1- 1),x4))
           (M.chk (okI (k1- 1))<|
            again1 ((k1- 1),x2)))
        (M.ret out1)) (127,(⟨0,0⟩:AValue))
def r02_Less (x1:AValue) (y1:AValue):M (Bool):=
  M.bif (decide (x1.Hi<y1.Hi))
    (M.ret true)
    (M.bif (decide (x1.Hi=y1.Hi))
       (M.ret (decide (x1.Lo<y1.Lo)))
       (M.ret false))
def r02_Div (x1:AValue) (y1:AValue):M (AValue):=
  M.loop (fun again1 ((k1, out1, rest1) : Int × AValue × AValue) =>
      M.bif (decide (0≤k1))
        (M.chk ((0 : Int) ≤ 63 ∧ (63 : Int) ≤ 64) <|
         M.call (r02_twice rest1) fun x2=>
         M.call (r02_bit x1 k1) fun x3=>
         M.bif (decide ((rest1.Hi / 2 ^ (63:Int).toNat)=1))
           (M.call (r02_Sub (⟨(Go.bits .or .u64 x2.Lo x3),x2.Hi⟩:AValue) y1) fun x4=>
            M.call (r02_set out1 k1) fun x5=>
            M.chk (okI (k1- 1))<|
            again1 ((k1- 1),x5,x4))
           (M.call (r02_Less (⟨(Go.bits .or .u64 x2.Lo x3),x2.Hi⟩:AValue) y1) fun x6=>
            M.bif (!x6)
              (M.call (r02_Sub (⟨(Go.bits .or .u64 x2.Lo x3),x2.Hi⟩:AValue) y1) fun x7=>
               M.call (r02_set out1 k1) fun x8=>
               M.chk (okI (k1- 1))<|
               again1 ((k1- 1),x8,x7))
              (M.chk (okI (k1- 1))<|
               again1 ((k1- 1),out1,(⟨(Go.bits .or .u64 x2.Lo x3),x2.Hi⟩:AValue)))))
        (M.ret out1)) (127,(⟨0,0⟩:AValue),(⟨0,0⟩:AValue))
def r02_truth (b1:Bool):M (AValue):=
  M.bif b1
    (M.ret (⟨1,0⟩:AValue))
    (M.ret (⟨0,0⟩:AValue))
def r02_Apply (op1 : Int) (x1 : AValue) (y1 : AValue) : M (AValue × Bool) :=
  M.bif (decide (op1 = 2))
    (M.call (r02_Add x1 y1) fun x2=>
     M.ret (x2,true))
    (M.bif (decide (op1 = 3))
       (M.call (r02_Sub x1 y1) fun x3=>
        M.ret (x3,true))
       (M.bif (decide (op1 = 4))
          (M.call (r02_Mul x1 y1) fun x4=>
           M.ret (x4,true))
          (M.bif (decide (op1 = 5))
             (M.join (fun (_:Unit)=>
                  M.call (r02_Div x1 y1) fun x5=>
                  M.ret (x5,true)) fun k1=>
              M.bif (decide (y1.Lo=0))
                (M.bif (decide (y1.Hi=0))
                   (M.ret ((⟨0,0⟩:AValue),false))
                   (k1 ()))
                (k1 ()))
             (M.bif (decide (op1 = 6))
                (M.ret ((⟨(Go.bits .and .u64 x1.Lo y1.Lo),(Go.bits .and .u64 x1.Hi y1.Hi)⟩:AValue),true))
                (M.bif (decide (op1=7))
                   (M.ret ((⟨(Go.bits .or .u64 x1.Lo y1.Lo),(Go.bits .or .u64 x1.Hi y1.Hi)⟩:AValue),true))
                   (M.bif (decide (op1 = 8))
                      (M.ret ((⟨(Go.bits .xor .u64 x1.Lo y1.Lo),(Go.bits .xor .u64 x1.Hi y1.Hi)⟩:AValue),true))
                      (M.bif (decide (op1 = 9))
                         (M.call (r02_Less x1 y1) fun x6=>
                          M.call (r02_truth x6) fun x7=>
                          M.ret (x7,true))
                         (M.bif (decide (op1=10))
                            (M.call (r02_truth (decide (x1=y1))) fun x8=>
                             M.ret (x8,true))
                            (M.ret ((⟨0,0⟩:AValue),false))))))))))
def r08_Plain (x1 : AInstr) (r1 : Arr8AValue) (input1 : List Int) (trace1 : List AValue) : M (Arr8AValue × List Int × List AValue × Bool) :=
  M.join (fun ((input2,trace2,r2):List Int × List AValue × Arr8AValue)=>
      M.ret (r2,input2,trace2,false)) fun k1=>
  M.bif (decide (x1.Op = 0))
    (M.chk ((0:Int)≤x1.A∧x1.A<8)<|
     k1 (input1,trace1,(Arr8AValue.set r1 x1.A (⟨x1.Imm,0⟩:AValue))))
    (M.bif (decide (x1.Op = 1))
       (M.chk ((0:Int)≤x1.B∧x1.B<8)<|
        M.chk ((0:Int)≤x1.A∧x1.A<8)<|
        k1 (input1,trace1,(Arr8AValue.set r1 x1.A (Arr8AValue.at_ r1 x1.B))))
       (M.bif (decide (x1.Op = 11))
          (M.chk ((0:Int)≤x1.B∧x1.B<8)<|
           M.chk ((0:Int)≤x1.C∧x1.C<8)<|
           M.call (r02_Pair (Arr8AValue.at_ r1 x1.B) (Arr8AValue.at_ r1 x1.C)) fun x2=>
           M.chk ((0:Int)≤x1.A∧x1.A<8)<|
           k1 (input1,trace1,(Arr8AValue.set r1 x1.A x2)))
          (M.bif (decide (x1.Op = 12))
             (M.chk ((0:Int)≤x1.B∧x1.B<8)<|
              M.call (r02_High (Arr8AValue.at_ r1 x1.B)) fun x3=>
              M.chk ((0:Int)≤x1.A∧x1.A<8)<|
              k1 (input1,trace1,(Arr8AValue.set r1 x1.A x3)))
             (M.bif (decide (x1.Op = 13))
                (M.chk ((0:Int)≤x1.A∧x1.A<8)<|
                 M.bif (decide (0<(input1.length:Int)))
                   (M.chk ((0:Int)≤0∧0<(input1.length:Int))<|
                    M.chk ((0:Int)≤x1.A∧x1.A<8)<|
                    M.chk ((0:Int)≤1∧1≤(input1.length:Int)∧(input1.length:Int)≤(input1.length:Int))<|
                    k1 ((sliceD input1 1 (input1.length:Int)),trace1,(Arr8AValue.set (Arr8AValue.set r1 x1.A (⟨0,0⟩:AValue)) x1.A (⟨(atD input1 0),0⟩:AValue))))
                   (k1 (input1,trace1,(Arr8AValue.set r1 x1.A (⟨0,0⟩:AValue)))))
                (M.bif (decide (x1.Op = 14))
                   (M.chk (trace1.length<1000000000000)<|
                    M.chk ((0:Int)≤x1.A∧x1.A<8)<|
                    M.chk (trace1.length+([(Arr8AValue.at_ r1 x1.A)]:List AValue).length<1000000000000)<|
                    k1 (input1,(trace1++([(Arr8AValue.at_ r1 x1.A)]:List AValue)),r1))
                   (M.chk ((0:Int)≤x1.B∧x1.B<8)<|
                    M.chk ((0:Int)≤x1.C∧x1.C<8)<|
                    M.call (r02_Apply x1.Op (Arr8AValue.at_ r1 x1.B) (Arr8AValue.at_ r1 x1.C)) fun x4=>
                    M.bif (!x4.2)
                      (M.ret (r1,input1,trace1,true))
                      (M.chk ((0:Int)≤x1.A∧x1.A<8)<|
                       k1 (input1,trace1,(Arr8AValue.set r1 x1.A x4.1)))))))))
def r08_machine_step (m1 : R08machine) : M (R08machine) :=
  M.chk (okI ((m1.acts.length:Int)- 1))<|
  M.chk (m1.acts.length<1000000000000)<|
  M.chk ((0:Int)≤((m1.acts.length:Int)- 1)∧((m1.acts.length:Int)- 1)<(m1.acts.length:Int))<|
  M.chk ((0:Int)≤(atD m1.acts ((m1.acts.length:Int)- 1)).f∧(atD m1.acts ((m1.acts.length:Int)- 1)).f<(m1.p.Funcs.length:Int))<|
  M.chk ((0:Int)≤(atD m1.acts ((m1.acts.length:Int)- 1)).at_∧(atD m1.acts ((m1.acts.length:Int)- 1)).at_<(((atD m1.p.Funcs ((atD m1.acts ((m1.acts.length:Int)- 1)).f)).Code).length:Int))<|
  M.chk (okI (m1.out.Steps+1))<|
  M.chk (okI (((atD m1.acts ((m1.acts.length:Int)- 1)).at_)+1))<|
  M.join (fun (at1 : Int) =>
      M.chk ((0:Int)≤((m1.acts.length:Int)- 1)∧((m1.acts.length:Int)- 1)<(m1.acts.length:Int))<|
      M.join (fun (x1 : Bool) =>
          M.bif x1
            (M.ret (⟨m1.p,m1.regs,(setD m1.acts ((m1.acts.length:Int)- 1) (⟨(atD m1.acts ((m1.acts.length:Int)- 1)).f,at1,(atD m1.acts ((m1.acts.length:Int)- 1)).slots,(atD m1.acts ((m1.acts.length:Int)- 1)).args⟩:R08activation)),m1.input,m1.deep,m1.done,(⟨m1.out.Kind,m1.out.Code,m1.out.Result,m1.out.Trace,(m1.out.Steps+1)⟩:AOutcome)⟩:R08machine))
            (M.bif (decide (((atD ((atD m1.p.Funcs ((atD m1.acts ((m1.acts.length : Int) - 1)).f)).Code) ((atD m1.acts ((m1.acts.length : Int) - 1)).at_)).Op) = 22))
               (M.call (r08_machine_enter (⟨m1.p,m1.regs,(setD m1.acts ((m1.acts.length:Int)- 1) (⟨(atD m1.acts ((m1.acts.length:Int)- 1)).f,at1,(atD m1.acts ((m1.acts.length:Int)- 1)).slots,(atD m1.acts ((m1.acts.length:Int)- 1)).args⟩:R08activation)),m1.input,m1.deep,m1.done,(⟨m1.out.Kind,m1.out.Code,m1.out.Result,m1.out.Trace,(m1.out.Steps+1)⟩:AOutcome)⟩:R08machine) ((atD ((atD m1.p.Funcs ((atD m1.acts ((m1.acts.length:Int)- 1)).f)).Code) ((atD m1.acts ((m1.acts.length:Int)- 1)).at_)).A)) fun x2=>
                M.ret x2)
               (M.bif (decide (((atD ((atD m1.p.Funcs ((atD m1.acts ((m1.acts.length : Int) - 1)).f)).Code) ((atD m1.acts ((m1.acts.length : Int) - 1)).at_)).Op) = 23))
                  (M.chk ((0:Int)≤0∧0≤((m1.acts.length:Int)- 1)∧((m1.acts.length:Int)- 1)≤((setD m1.acts ((m1.acts.length:Int)- 1) (⟨(atD m1.acts ((m1.acts.length:Int)- 1)).f,at1,(atD m1.acts ((m1.acts.length:Int)- 1)).slots,(atD m1.acts ((m1.acts.length:Int)- 1)).args⟩:R08activation)).length:Int))<|
                   M.chk ((sliceD (setD m1.acts ((m1.acts.length:Int)- 1) (⟨(atD m1.acts ((m1.acts.length:Int)- 1)).f,at1,(atD m1.acts ((m1.acts.length:Int)- 1)).slots,(atD m1.acts ((m1.acts.length:Int)- 1)).args⟩:R08activation)) 0 ((m1.acts.length:Int)- 1)).length<1000000000000)<|
                   M.bif (decide (((m1.acts.length:Int)- 1)=0))
                     (M.call (r08_machine_end (⟨m1.p,m1.regs,(sliceD (setD m1.acts ((m1.acts.length:Int)- 1) (⟨(atD m1.acts ((m1.acts.length:Int)- 1)).f,at1,(atD m1.acts ((m1.acts.length:Int)- 1)).slots,(atD m1.acts ((m1.acts.length:Int)- 1)).args⟩:R08activation)) 0 ((m1.acts.length:Int)- 1)),m1.input,m1.deep,m1.done,(⟨m1.out.Kind,m1.out.Code,m1.out.Result,m1.out.Trace,(m1.out.Steps+1)⟩:AOutcome)⟩:R08machine) 0) fun x3=>
                      M.ret (⟨x3.p,x3.regs,x3.acts,x3.input,x3.deep,x3.done,(⟨x3.out.Kind,x3.out.Code,x3.regs.e0,x3.out.Trace,x3.out.Steps⟩:AOutcome)⟩:R08machine))
                     (M.ret (⟨m1.p,m1.regs,(sliceD (setD m1.acts ((m1.acts.length:Int)- 1) (⟨(atD m1.acts ((m1.acts.length:Int)- 1)).f,at1,(atD m1.acts ((m1.acts.length:Int)- 1)).slots,(atD m1.acts ((m1.acts.length:Int)- 1)).args⟩:R08activation)) 0 ((m1.acts.length:Int)- 1)),m1.input,m1.deep,m1.done,(⟨m1.out.Kind,m1.out.Code,m1.out.Result,m1.out.Trace,(m1.out.Steps+1)⟩:AOutcome)⟩:R08machine)))
                  (M.bif (decide (((atD ((atD m1.p.Funcs ((atD m1.acts ((m1.acts.length : Int) - 1)).f)).Code) ((atD m1.acts ((m1.acts.length : Int) - 1)).at_)).Op) = 24))
                     (M.call (r08_machine_end (⟨m1.p,m1.regs,(setD m1.acts ((m1.acts.length:Int)- 1) (⟨(atD m1.acts ((m1.acts.length:Int)- 1)).f,at1,(atD m1.acts ((m1.acts.length:Int)- 1)).slots,(atD m1.acts ((m1.acts.length:Int)- 1)).args⟩:R08activation)),m1.input,m1.deep,m1.done,(⟨m1.out.Kind,m1.out.Code,m1.out.Result,m1.out.Trace,(m1.out.Steps+1)⟩:AOutcome)⟩:R08machine) 1) fun x4=>
                      M.ret (⟨x4.p,x4.regs,x4.acts,x4.input,x4.deep,x4.done,(⟨x4.out.Kind,(atD ((atD m1.p.Funcs ((atD m1.acts ((m1.acts.length:Int)- 1)).f)).Code) ((atD m1.acts ((m1.acts.length:Int)- 1)).at_)).Imm,x4.out.Result,x4.out.Trace,x4.out.Steps⟩:AOutcome)⟩:R08machine))
                     (M.call (r08_machine_memory (⟨m1.p,m1.regs,(setD m1.acts ((m1.acts.length:Int)- 1) (⟨(atD m1.acts ((m1.acts.length:Int)- 1)).f,at1,(atD m1.acts ((m1.acts.length:Int)- 1)).slots,(atD m1.acts ((m1.acts.length:Int)- 1)).args⟩:R08activation)),m1.input,m1.deep,m1.done,(⟨m1.out.Kind,m1.out.Code,m1.out.Result,m1.out.Trace,(m1.out.Steps+1)⟩:AOutcome)⟩:R08machine) (atD ((atD m1.p.Funcs ((atD m1.acts ((m1.acts.length:Int)- 1)).f)).Code) ((atD m1.acts ((m1.acts.length:Int)- 1)).at_))) fun x5=>
                      M.bif x5.1
                        (M.ret x5.2)
                        (M.call (r08_Plain (atD ((atD m1.p.Funcs ((atD m1.acts ((m1.acts.length:Int)- 1)).f)).Code) ((atD m1.acts ((m1.acts.length:Int)- 1)).at_)) x5.2.regs x5.2.input x5.2.out.Trace) fun x6=>
                         M.bif x6.2.2.2
                           (M.call (r08_machine_end (⟨x5.2.p,x6.1,x5.2.acts,x6.2.1,x5.2.deep,x5.2.done,(⟨x5.2.out.Kind,x5.2.out.Code,x5.2.out.Result,x6.2.2.1,x5.2.out.Steps⟩:AOutcome)⟩:R08machine) 2) fun x7=>
                            M.ret x7)
                           (M.ret (⟨x5.2.p,x6.1,x5.2.acts,x6.2.1,x5.2.deep,x5.2.done,(⟨x5.2.out.Kind,x5.2.out.Code,x5.2.out.Result,x6.2.2.1,x5.2.out.Steps⟩:AOutcome)⟩:R08machine)))))))) fun k2=>
      M.bif (decide (((atD ((atD m1.p.Funcs ((atD m1.acts ((m1.acts.length:Int)- 1)).f)).Code) ((atD m1.acts ((m1.acts.length:Int)- 1)).at_)).Op)=20))
        (k2 (decide (((atD ((atD m1.p.Funcs ((atD m1.acts ((m1.acts.length:Int)- 1)).f)).Code) ((atD m1.acts ((m1.acts.length:Int)- 1)).at_)).Op)=20)))
        (k2 (decide (((atD ((atD m1.p.Funcs ((atD m1.acts ((m1.acts.length:Int)- 1)).f)).Code) ((atD m1.acts ((m1.acts.length:Int)- 1)).at_)).Op)=21)))) fun k1=>
  M.bif (decide (((atD ((atD m1.p.Funcs ((atD m1.acts ((m1.acts.length:Int)- 1)).f)).Code) ((atD m1.acts ((m1.acts.length:Int)- 1)).at_)).Op)=20))
    (k1 ((atD ((atD m1.p.Funcs ((atD m1.acts ((m1.acts.length:Int)- 1)).f)).Code) ((atD m1.acts ((m1.acts.length:Int)- 1)).at_)).A))
    (M.bif (decide (((atD ((atD m1.p.Funcs ((atD m1.acts ((m1.acts.length:Int)- 1)).f)).Code) ((atD m1.acts ((m1.acts.length:Int)- 1)).at_)).Op)=21))
       (M.chk ((0:Int)≤(atD ((atD m1.p.Funcs ((atD m1.acts ((m1.acts.length:Int)- 1)).f)).Code) ((atD m1.acts ((m1.acts.length:Int)- 1)).at_)).A∧(atD ((atD m1.p.Funcs ((atD m1.acts ((m1.acts.length:Int)- 1)).f)).Code) ((atD m1.acts ((m1.acts.length:Int)- 1)).at_)).A<8)<|
        M.bif (!decide (((Arr8AValue.at_ m1.regs ((atD ((atD m1.p.Funcs ((atD m1.acts ((m1.acts.length:Int)- 1)).f)).Code) ((atD m1.acts ((m1.acts.length:Int)- 1)).at_)).A)).Lo)=0))
          (k1 ((atD ((atD m1.p.Funcs ((atD m1.acts ((m1.acts.length:Int)- 1)).f)).Code) ((atD m1.acts ((m1.acts.length:Int)- 1)).at_)).B))
          (k1 (((atD m1.acts ((m1.acts.length:Int)- 1)).at_)+1)))
       (k1 (((atD m1.acts ((m1.acts.length:Int)- 1)).at_)+1)))
def r08_run (p1:AProgram) (input1:List Int) (fuel1:Int):M (AOutcome × Int × Int):=
  M.call (r05_Check p1) fun x1=>
  M.bif (!decide (x1 = 0))
    (M.ret ((⟨0,0,(⟨0,0⟩:AValue),([]:List AValue),0⟩:AOutcome),0,x1))
    (M.bif (decide (fuel1 < 0))
       (M.ret ((⟨0,0,(⟨0,0⟩:AValue),([]:List AValue),0⟩:AOutcome),0,4))
       (M.bif (decide (100000<fuel1))
          (M.ret ((⟨0,0,(⟨0,0⟩:AValue),([]:List AValue),0⟩:AOutcome),0,4))
          (M.call (r08_machine_enter (⟨p1,(⟨(⟨0,0⟩:AValue),(⟨0,0⟩:AValue),(⟨0,0⟩:AValue),(⟨0,0⟩:AValue),(⟨0,0⟩:AValue),(⟨0,0⟩:AValue),(⟨0,0⟩:AValue),(⟨0,0⟩:AValue)⟩:Arr8AValue),([]:List R08activation),input1,0,false,(⟨0,0,(⟨0,0⟩:AValue),([]:List AValue),0⟩:AOutcome)⟩:R08machine) 0) fun x2=>
           M.loop (fun again1 (m1:R08machine)=>
               M.bif (!m1.done)
                 (M.bif (decide (fuel1≤m1.out.Steps))
                    (M.call (r08_machine_end m1 4) fun x3=>
                     M.ret (x3.out,x3.deep,0))
                    (M.call (r08_machine_step m1) fun x4=>
                     again1 x4))
                 (M.ret (m1.out,m1.deep,0))) x2)))
def r08_Run (p1:AProgram) (input1:List Int) (fuel1:Int):M (AOutcome × Int):=
  M.call (r08_run p1 input1 fuel1) fun x1=>
  M.ret (x1.1,x1.2.2)
def r10_within (k1:Int) (n1:Int):M (Bool):=
  M.bif (decide (0≤k1))
    (M.ret (decide (k1<n1)))
    (M.ret false)
def r10_shape (t1:ATarget) (f1:AFrame):M (Bool):=
  M.call (r03_Power t1.Align) fun x1=>
  M.bif x1
    (M.bif (decide (0≤f1.Params))
       (M.bif (decide (f1.Params≤8))
          (M.bif (decide (0 ≤ f1.Size))
             (M.bif (decide (f1.Size≤2147483519))
                (M.chk ((0:Int)≤f1.Size∧(0:Int)<t1.Align)<|
                 M.ret (decide ((f1.Size % t1.Align)=0)))
                (M.ret false))
             (M.ret false))
          (M.ret false))
       (M.ret false))
    (M.ret false)
def r10_memory (op1:Int):M (Bool):=
  M.bif (decide (op1=15))
    (M.ret true)
    (M.bif (decide (op1=16))
       (M.ret true)
       (M.ret (decide (op1=17))))
def r10_Operands (op1:Int):M (Bool × Bool × Bool × Bool):=
  M.call (r10_memory op1) fun x1=>
  M.bif x1
    (M.ret (true,true,true,false))
    (M.call (r05_Operands op1) fun x2=>
     M.ret (x2.1,x2.2.1,x2.2.2.1,x2.2.2.2))
def r10_named (t1 : ATarget) (x1 : AInstr) : M (Bool) :=
  M.join (fun (x2 : Bool) =>
      M.bif x2
        (M.call (r10_within x1.A 8) fun x3=>
         M.ret x3)
        (M.join (fun (x4 : Bool) =>
             M.bif x4
               (M.call (r10_within x1.A 8) fun x5=>
                M.bif x5
                  (M.call (r10_within x1.B 8) fun x6=>
                   M.ret x6)
                  (M.ret false))
               (M.join (fun (x7 : Bool) =>
                    M.bif x7
                      (M.call (r10_within x1.A 8) fun x8=>
                       M.bif x8
                         (M.call (r10_within x1.B 8) fun x9=>
                          M.bif x9
                            (M.call (r10_within x1.C 8) fun x10=>
                             M.ret x10)
                            (M.ret false))
                         (M.ret false))
                      (M.bif (decide (x1.Op = 16))
                         (M.call (r10_within x1.B 8) fun x11=>
                          M.ret x11)
                         (M.bif (decide (x1.Op=22))
                            (M.call (r10_within x1.A (t1.Frames.length:Int)) fun x12=>
                             M.ret x12)
                            (M.ret true)))) fun k3=>
                M.bif (decide (x1.Op = 2))
                  (k3 (decide (x1.Op=2)))
                  (M.bif (decide (x1.Op = 3))
                     (k3 (decide (x1.Op=3)))
                     (M.bif (decide (x1.Op = 4))
                        (k3 (decide (x1.Op=4)))
                        (M.bif (decide (x1.Op = 5))
                           (k3 (decide (x1.Op=5)))
                           (M.bif (decide (x1.Op = 6))
                              (k3 (decide (x1.Op=6)))
                              (M.bif (decide (x1.Op=7))
                                 (k3 (decide (x1.Op=7)))
                                 (M.bif (decide (x1.Op=8))
                                    (k3 (decide (x1.Op=8)))
                                    (M.bif (decide (x1.Op=9))
                                       (k3 (decide (x1.Op=9)))
                                       (M.bif (decide (x1.Op=10))
                                          (k3 (decide (x1.Op=10)))
                                          (k3 (decide (x1.Op=11))))))))))))) fun k2=>
         M.bif (decide (x1.Op=1))
           (k2 (decide (x1.Op=1)))
           (k2 (decide (x1.Op=12))))) fun k1=>
  M.bif (decide (x1.Op=0))
    (k1 (decide (x1.Op=0)))
    (M.bif (decide (x1.Op=13))
       (k1 (decide (x1.Op=13)))
       (M.bif (decide (x1.Op=14))
          (k1 (decide (x1.Op=14)))
          (M.bif (decide (x1.Op=15))
             (k1 (decide (x1.Op=15)))
             (k1 (decide (x1.Op=21))))))
def r10_Reads (f1:AFrame) (x1:AInstr):M (AInterval × Bool):=
  M.bif (decide (x1.Op=15))
    (M.ret ((⟨x1.B,x1.C⟩:AInterval),true))
    (M.bif (decide (x1.Op=17))
       (M.ret ((⟨x1.B,x1.C⟩:AInterval),true))
       (M.ret ((⟨0,0⟩:AInterval),false)))
def r03_Right (a1:AInterval):M (Bool):=
  M.call (r03_Bound a1.Off) fun x1=>
  M.bif x1
    (M.call (r03_Bound a1.Size) fun x2=>
     M.bif x2
       (M.chk (okI (a1.Off+a1.Size))<|
        M.ret (decide ((a1.Off+a1.Size)≤2147483647)))
       (M.ret false))
    (M.ret false)
def r03_Inside (a1:AInterval) (size1:Int):M (Bool):=
  M.call (r03_Right a1) fun x1=>
  M.bif x1
    (M.chk (okI (a1.Off+a1.Size))<|
     M.ret (decide ((a1.Off+a1.Size)≤size1)))
    (M.ret false)
def r10_Writes (f1:AFrame) (x1:AInstr):M (AInterval × Bool):=
  M.bif (decide (x1.Op=16))
    (M.ret ((⟨x1.A,x1.C⟩:AInterval),true))
    (M.bif (decide (x1.Op=17))
       (M.ret ((⟨x1.A,x1.C⟩:AInterval),true))
       (M.ret ((⟨0,0⟩:AInterval),false)))
def r10_CheckInstr (t1 : ATarget) (i1 : Int) (k1 : Int) : M (Int) :=
  M.call (r10_within i1 (t1.Frames.length:Int)) fun x1=>
  M.bif (!x1)
    (M.ret 4)
    (M.chk ((0 : Int) ≤ i1 ∧ i1 < (t1.Frames.length : Int)) <|
     M.call (r10_within k1 (((atD t1.Frames i1).Code).length:Int)) fun x2=>
     M.bif (!x2)
       (M.ret 4)
       (M.chk ((0 : Int) ≤ i1 ∧ i1 < (t1.Frames.length : Int)) <|
        M.call (r10_shape t1 (atD t1.Frames i1)) fun x3=>
        M.bif (!x3)
          (M.ret 4)
          (M.chk ((0 : Int) ≤ i1 ∧ i1 < (t1.Frames.length : Int)) <|
           M.chk ((0:Int)≤k1∧k1<(((atD t1.Frames i1).Code).length:Int))<|
           M.call (r10_within ((atD ((atD t1.Frames i1).Code) k1).Op) 25) fun x4=>
           M.bif (!x4)
             (M.ret 4)
             (M.bif (decide (((atD ((atD t1.Frames i1).Code) k1).Op) = 18))
                (M.ret 4)
                (M.bif (decide (((atD ((atD t1.Frames i1).Code) k1).Op) = 19))
                   (M.ret 4)
                   (M.call (r10_Operands ((atD ((atD t1.Frames i1).Code) k1).Op)) fun x5 =>
                    M.join (fun (x6 : Bool) =>
                        M.bif x6
                          (M.ret 2)
                          (M.call (r10_named t1 (atD ((atD t1.Frames i1).Code) k1)) fun x7 =>
                           M.bif (!x7)
                             (M.ret 4)
                             (M.join (fun (_ : Unit) =>
                                  M.join (fun (_ : Unit) =>
                                      M.join (fun (_ : Unit) =>
                                          M.bif (decide (((atD ((atD t1.Frames i1).Code) k1).Op)=20))
                                            (M.call (r10_within ((atD ((atD t1.Frames i1).Code) k1).A) (((atD t1.Frames i1).Code).length:Int)) fun x8=>
                                             M.bif (!x8)
                                               (M.ret 6)
                                               (M.bif (decide (((atD ((atD t1.Frames i1).Code) k1).Op)=21))
                                                  (M.call (r10_within ((atD ((atD t1.Frames i1).Code) k1).B) (((atD t1.Frames i1).Code).length:Int)) fun x9=>
                                                   M.bif (!x9)
                                                     (M.ret 6)
                                                     (M.ret 0))
                                                  (M.ret 0)))
                                            (M.bif (decide (((atD ((atD t1.Frames i1).Code) k1).Op)=21))
                                               (M.call (r10_within ((atD ((atD t1.Frames i1).Code) k1).B) (((atD t1.Frames i1).Code).length:Int)) fun x10=>
                                                M.bif (!x10)
                                                  (M.ret 6)
                                                  (M.ret 0))
                                               (M.ret 0))) fun k5=>
                                      M.call (r10_Writes (atD t1.Frames i1) (atD ((atD t1.Frames i1).Code) k1)) fun x11=>
                                      M.bif x11.2
                                        (M.call (r03_Inside x11.1 ((atD t1.Frames i1).Size)) fun x12=>
                                         M.bif (!x12)
                                           (M.ret 4)
                                           (k5 ()))
                                        (k5 ())) fun k4=>
                                  M.call (r10_Reads (atD t1.Frames i1) (atD ((atD t1.Frames i1).Code) k1)) fun x13=>
                                  M.bif x13.2
                                    (M.chk (okI ((16:Int)*((atD t1.Frames i1).Params)))<|
                                     M.chk (okI (((atD t1.Frames i1).Size)+((16:Int)*((atD t1.Frames i1).Params))))<|
                                     M.call (r03_Inside x13.1 (((atD t1.Frames i1).Size)+((16:Int)*((atD t1.Frames i1).Params)))) fun x14=>
                                     M.bif (!x14)
                                       (M.ret 4)
                                       (k4 ()))
                                    (k4 ())) fun k3=>
                              M.call (r10_memory ((atD ((atD t1.Frames i1).Code) k1).Op)) fun x15=>
                              M.bif x15
                                (M.call (r02_Size ((atD ((atD t1.Frames i1).Code) k1).C)) fun x16=>
                                 M.bif (!x16)
                                   (M.ret 5)
                                   (k3 ()))
                                (k3 ())))) fun k2=>
                    M.bif (!x5.1)
                      (M.bif (!decide (((atD ((atD t1.Frames i1).Code) k1).A)=0))
                         (k2 true)
                         (M.bif (!x5.2.1)
                            (M.bif (!decide (((atD ((atD t1.Frames i1).Code) k1).B)=0))
                               (k2 true)
                               (M.bif (!x5.2.2.1)
                                  (M.bif (!decide (((atD ((atD t1.Frames i1).Code) k1).C)=0))
                                     (k2 true)
                                     (M.bif (!x5.2.2.2)
                                        (k2 (!decide (((atD ((atD t1.Frames i1).Code) k1).Imm)=0)))
                                        (k2 false)))
                                  (M.bif (!x5.2.2.2)
                                     (k2 (!decide (((atD ((atD t1.Frames i1).Code) k1).Imm)=0)))
                                     (k2 false))))
                            (M.bif (!x5.2.2.1)
                               (M.bif (!decide (((atD ((atD t1.Frames i1).Code) k1).C)=0))
                                  (k2 true)
                                  (M.bif (!x5.2.2.2)
                                     (k2 (!decide (((atD ((atD t1.Frames i1).Code) k1).Imm)=0)))
                                     (k2 false)))
                               (M.bif (!x5.2.2.2)
                                  (k2 (!decide (((atD ((atD t1.Frames i1).Code) k1).Imm)=0)))
                                  (k2 false)))))
                      (M.bif (!x5.2.1)
                         (M.bif (!decide (((atD ((atD t1.Frames i1).Code) k1).B)=0))
                            (k2 true)
                            (M.bif (!x5.2.2.1)
                               (M.bif (!decide (((atD ((atD t1.Frames i1).Code) k1).C)=0))
                                  (k2 true)
                                  (M.bif (!x5.2.2.2)
                                     (k2 (!decide (((atD ((atD t1.Frames i1).Code) k1).Imm)=0)))
                                     (k2 false)))
                               (M.bif (!x5.2.2.2)
                                  (k2 (!decide (((atD ((atD t1.Frames i1).Code) k1).Imm)=0)))
                                  (k2 false))))
                         (M.bif (!x5.2.2.1)
                            (M.bif (!decide (((atD ((atD t1.Frames i1).Code) k1).C)=0))
                               (k2 true)
                               (M.bif (!x5.2.2.2)
                                  (k2 (!decide (((atD ((atD t1.Frames i1).Code) k1).Imm)=0)))
                                  (k2 false)))
                            (M.bif (!x5.2.2.2)
                               (k2 (!decide (((atD ((atD t1.Frames i1).Code) k1).Imm)=0)))
                               (k2 false))))))))))
def r10_CheckFrame (t1 : ATarget) (i1 : Int) : M (Int) :=
  M.call (r10_within i1 (t1.Frames.length:Int)) fun x1=>
  M.bif (!x1)
    (M.ret 4)
    (M.chk ((0 : Int) ≤ i1 ∧ i1 < (t1.Frames.length : Int)) <|
     M.call (r10_shape t1 (atD t1.Frames i1)) fun x2=>
     M.bif (!x2)
       (M.ret 4)
       (M.chk ((0 : Int) ≤ i1 ∧ i1 < (t1.Frames.length : Int)) <|
        M.bif (decide (1024<(((atD t1.Frames i1).Code).length:Int)))
          (M.ret 3)
          (M.loop (fun again1 (k1 : Int) =>
               M.bif (decide (k1<(((atD t1.Frames i1).Code).length:Int)))
                 (M.call (r10_CheckInstr t1 i1 k1) fun x3=>
                  M.bif (!decide (x3=0))
                    (M.ret x3)
                    (M.chk (okI (k1+1))<|
                     again1 (k1+1)))
                 (M.bif (decide ((((atD t1.Frames i1).Code).length:Int)=0))
                    (M.ret 6)
                    (M.chk (okI ((((atD t1.Frames i1).Code).length:Int)- 1))<|
                     M.chk ((0:Int)≤((((atD t1.Frames i1).Code).length:Int)- 1)∧((((atD t1.Frames i1).Code).length:Int)- 1)<(((atD t1.Frames i1).Code).length:Int))<|
                     M.call (r05_Terminator ((atD ((atD t1.Frames i1).Code) ((((atD t1.Frames i1).Code).length:Int)- 1)).Op)) fun x4=>
                     M.bif (!x4)
                       (M.ret 6)
                       (M.ret 0)))) 0)))
def r10_calls (t1:ATarget) (f1:AFrame):M (Bool):=
  M.loop (fun again1 (k1 : Int) =>
      M.bif (decide (k1<(f1.Code.length:Int)))
        (M.chk ((0 : Int) ≤ k1 ∧ k1 < (f1.Code.length : Int)) <|
         M.bif (decide (((atD f1.Code k1).Op)=22))
           (M.chk ((0:Int)≤k1∧k1<(f1.Code.length:Int))<|
            M.chk ((0:Int)≤(atD f1.Code k1).A∧(atD f1.Code k1).A<(t1.Frames.length:Int))<|
            M.chk (okI ((16:Int)*((atD t1.Frames ((atD f1.Code k1).A)).Params)))<|
            M.bif (decide (f1.Size<((16:Int)*((atD t1.Frames ((atD f1.Code k1).A)).Params))))
              (M.ret false)
              (M.chk (okI (k1+1))<|
               again1 (k1+1)))
           (M.chk (okI (k1+1))<|
            again1 (k1+1)))
        (M.ret true)) 0
def r10_Check (t1 : ATarget) : M (Int) :=
  M.bif (decide (80 < (t1.Frames.length : Int)))
    (M.ret 3)
    (M.bif (decide ((t1.Frames.length:Int)=0))
       (M.ret 4)
       (M.call (r03_Power t1.Align) fun x1 =>
        M.bif (!x1)
          (M.ret 5)
          (M.bif (decide (t1.Align<16))
             (M.ret 5)
             (M.chk ((0 : Int) ≤ 0 ∧ 0 < (t1.Frames.length : Int)) <|
              M.bif (!decide (((atD t1.Frames 0).Params)=0))
                (M.ret 7)
                (M.loop (fun again1 (i1 : Int) =>
                     M.bif (decide (i1<(t1.Frames.length:Int)))
                       (M.call (r10_CheckFrame t1 i1) fun x2=>
                        M.bif (!decide (x2=0))
                          (M.ret x2)
                          (M.chk (okI (i1+1))<|
                           again1 (i1+1)))
                       (M.loop (fun again2 (i2 : Int) =>
                            M.bif (decide (i2<(t1.Frames.length:Int)))
                              (M.chk ((0:Int)≤i2∧i2<(t1.Frames.length:Int))<|
                               M.call (r10_calls t1 (atD t1.Frames i2)) fun x3=>
                               M.bif (!x3)
                                 (M.ret 7)
                                 (M.chk (okI (i2+1))<|
                                  again2 (i2+1)))
                              (M.ret 0)) 0)) 0)))))
def r09_New (size1:Int) (align1:Int):M (AStack × Int):=
  M.bif (decide (size1<0))
    (M.ret ((⟨([]:List Int),([]:List Bool),0⟩:AStack),4))
    (M.bif (decide (1048576 < size1))
       (M.ret ((⟨([]:List Int),([]:List Bool),0⟩:AStack),4))
       (M.call (r03_Power align1) fun x1=>
        M.bif (!x1)
          (M.ret ((⟨([]:List Int),([]:List Bool),0⟩:AStack),4))
          (M.chk ((0:Int)≤size1∧size1<1000000000000)<|
           M.chk ((0:Int)≤size1∧size1<1000000000000)<|
           M.chk ((0:Int)≤size1∧(0:Int)<align1)<|
           M.chk (okI (size1- (size1 % align1)))<|
           M.ret ((⟨(repD size1:List Int),(repD size1:List Bool),(size1- (size1 % align1))⟩:AStack),0))))
def r09_Copy (s1:AStack):M (AStack):=
  M.chk (s1.Bytes.length<1000000000000)<|
  M.chk (s1.Used.length<1000000000000)<|
  M.ret s1
def r09_Push (s1:AStack) (size1:Int):M (AStack × Int):=
  M.bif (decide (size1<0))
    (M.ret (s1,4))
    (M.bif (decide (s1.SP<size1))
       (M.ret (s1,9))
       (M.call (r09_Copy s1) fun x1 =>
        M.chk (okI (x1.SP- size1))<|
        M.loop (fun again1 ((i1,own1):Int × List Bool)=>
            M.bif (decide (i1<s1.SP))
              (M.chk ((0:Int)≤i1∧i1<(own1.length:Int))<|
               M.chk (okI (i1+1))<|
               again1 ((i1+1),(setD own1 i1 false)))
              (M.ret ((⟨x1.Bytes,own1,(x1.SP- size1)⟩:AStack),0))) ((x1.SP- size1),x1.Used)))
def r12_machine_end (m1:R12machine) (kind1:Int):M (R12machine):=
  M.ret (⟨m1.t,m1.regs,m1.acts,m1.stack,m1.first,m1.deep,m1.input,true,(⟨kind1,m1.out.Code,m1.out.Result,m1.out.Trace,m1.out.Steps⟩:AOutcome)⟩:R12machine)
def r12_machine_enter (m1:R12machine) (f1:Int):M (R12machine):=
  M.chk ((0:Int)≤f1∧f1<(m1.t.Frames.length:Int))<|
  M.call (r09_Push m1.stack ((atD m1.t.Frames f1).Size)) fun x1=>
  M.bif (!decide (x1.2=0))
    (M.call (r12_machine_end m1 5) fun x2=>
     M.ret x2)
    (M.chk (okI (m1.first- x1.1.SP))<|
     M.chk (m1.acts.length<1000000000000)<|
     M.chk (m1.acts.length+([(⟨f1,0⟩:R12activation)]:List R12activation).length<1000000000000)<|
     M.ret (⟨m1.t,m1.regs,(m1.acts++([(⟨f1,0⟩:R12activation)]:List R12activation)),x1.1,m1.first,(max m1.deep (m1.first- x1.1.SP)),m1.input,m1.done,m1.out⟩:R12machine))
def r09_Pop (s1:AStack) (size1:Int):M (AStack × Int):=
  M.bif (decide (size1<0))
    (M.ret (s1,4))
    (M.chk (okI ((s1.Bytes.length:Int)- s1.SP))<|
     M.bif (decide (((s1.Bytes.length:Int)- s1.SP)<size1))
       (M.ret (s1,4))
       (M.chk (okI (s1.SP+size1))<|
        M.ret ((⟨s1.Bytes,s1.Used,(s1.SP+size1)⟩:AStack),0)))
def r12_machine_leave (m1:R12machine):M (R12machine):=
  M.chk (okI ((m1.acts.length:Int)- 1))<|
  M.chk ((0:Int)≤((m1.acts.length:Int)- 1)∧((m1.acts.length:Int)- 1)<(m1.acts.length:Int))<|
  M.chk ((0:Int)≤(atD m1.acts ((m1.acts.length:Int)- 1)).f∧(atD m1.acts ((m1.acts.length:Int)- 1)).f<(m1.t.Frames.length:Int))<|
  M.call (r09_Pop m1.stack ((atD m1.t.Frames ((atD m1.acts ((m1.acts.length:Int)- 1)).f)).Size)) fun x1=>
  M.chk ((0:Int)≤0∧0≤((m1.acts.length:Int)- 1)∧((m1.acts.length:Int)- 1)≤(m1.acts.length:Int))<|
  M.chk ((sliceD m1.acts 0 ((m1.acts.length:Int)- 1)).length<1000000000000)<|
  M.bif (decide (((m1.acts.length:Int)- 1)=0))
    (M.call (r12_machine_end (⟨m1.t,m1.regs,(sliceD m1.acts 0 ((m1.acts.length:Int)- 1)),x1.1,m1.first,m1.deep,m1.input,m1.done,m1.out⟩:R12machine) 0) fun x2=>
     M.ret (⟨x2.t,x2.regs,x2.acts,x2.stack,x2.first,x2.deep,x2.input,x2.done,(⟨x2.out.Kind,x2.out.Code,x2.regs.e0,x2.out.Trace,x2.out.Steps⟩:AOutcome)⟩:R12machine))
    (M.ret (⟨m1.t,m1.regs,(sliceD m1.acts 0 ((m1.acts.length:Int)- 1)),x1.1,m1.first,m1.deep,m1.input,m1.done,m1.out⟩:R12machine))
def r09_right (s1:AStack) (off1:Int) (size1:Int):M (Bool):=
  M.call (r02_Size size1) fun x1=>
  M.bif x1
    (M.bif (decide (0≤off1))
       (M.chk (okI ((s1.Bytes.length:Int)- s1.SP))<|
        M.chk (okI (((s1.Bytes.length:Int)- s1.SP)- size1))<|
        M.ret (decide (off1≤(((s1.Bytes.length:Int)- s1.SP)- size1))))
       (M.ret false))
    (M.ret false)
def r09_used (s1:AStack) (off1:Int) (size1:Int):M (Bool):=
  M.loop (fun again1 (k1:Int)=>
      M.bif (decide (k1<size1))
        (M.chk (okI (s1.SP+off1))<|
         M.chk (okI ((s1.SP+off1)+k1))<|
         M.chk ((0:Int)≤((s1.SP+off1)+k1)∧((s1.SP+off1)+k1)<(s1.Used.length:Int))<|
         M.bif (!(atD s1.Used ((s1.SP+off1)+k1)))
           (M.ret false)
           (M.chk (okI (k1+1))<|
            again1 (k1+1)))
        (M.ret true)) 0
def r09_Load (s1:AStack) (off1:Int) (size1:Int):M (AValue × Bool × Int):=
  M.call (r09_right s1 off1 size1) fun x1=>
  M.bif (!x1)
    (M.ret ((⟨0,0⟩:AValue),false,4))
    (M.call (r09_used s1 off1 size1) fun x2=>
     M.bif (!x2)
       (M.ret ((⟨0,0⟩:AValue),false,0))
       (M.chk (okI (s1.SP+off1))<|
        M.chk (okI (s1.SP+off1))<|
        M.chk (okI ((s1.SP+off1)+size1))<|
        M.chk ((0:Int)≤(s1.SP+off1)∧(s1.SP+off1)≤((s1.SP+off1)+size1)∧((s1.SP+off1)+size1)≤(s1.Bytes.length:Int))<|
        M.call (r02_FromBytes (sliceD s1.Bytes (s1.SP+off1) ((s1.SP+off1)+size1))) fun x3=>
        M.ret (x3,true,0)))
def r09_Store (s1:AStack) (off1:Int) (size1:Int) (v1:AValue):M (AStack × Int):=
  M.call (r09_right s1 off1 size1) fun x1=>
  M.bif (!x1)
    (M.ret (s1,4))
    (M.call (r09_Copy s1) fun x2 =>
     M.call (r02_Bytes v1 size1) fun x3=>
     M.loop (fun again1 ((k1,own1,own2):Int × List Int × List Bool)=>
         M.bif (decide (k1<size1))
           (M.chk (okI (s1.SP+off1))<|
            M.chk (okI ((s1.SP+off1)+k1))<|
            M.chk (okI (s1.SP+off1))<|
            M.chk (okI ((s1.SP+off1)+k1))<|
            M.chk ((0:Int)≤k1∧k1<(x3.length:Int))<|
            M.chk ((0:Int)≤((s1.SP+off1)+k1)∧((s1.SP+off1)+k1)<(own1.length:Int))<|
            M.chk ((0:Int)≤((s1.SP+off1)+k1)∧((s1.SP+off1)+k1)<(own2.length:Int))<|
            M.chk (okI (k1+1))<|
            again1 ((k1+1),(setD own1 ((s1.SP+off1)+k1) (atD x3 k1)),(setD own2 ((s1.SP+off1)+k1) true)))
           (M.ret ((⟨own1,own2,x2.SP⟩:AStack),0))) (0,x2.Bytes,x2.Used))
def r09_Move (s1:AStack) (to1:Int) (from1:Int) (size1:Int):M (AStack × Bool × Int):=
  M.call (r09_right s1 to1 size1) fun x1=>
  M.bif (!x1)
    (M.ret (s1,false,4))
    (M.call (r09_right s1 from1 size1) fun x2=>
     M.bif (!x2)
       (M.ret (s1,false,4))
       (M.call (r09_Load s1 from1 size1) fun x3=>
        M.bif (!x3.2.1)
          (M.ret (s1,false,0))
          (M.call (r09_Store s1 to1 size1 x3.1) fun x4=>
           M.ret (x4.1,true,0))))
def r12_machine_memory (m1:R12machine) (x1:AInstr):M (Bool × R12machine):=
  M.join (fun ((ok1,e1,m2):Bool × Int × R12machine)=>
      M.bif (!decide (e1=0))
        (M.call (r12_machine_end m2 6) fun x2=>
         M.ret (true,x2))
        (M.bif (!ok1)
           (M.call (r12_machine_end m2 3) fun x3=>
            M.ret (true,x3))
           (M.ret (true,m2)))) fun k1=>
  M.bif (decide (x1.Op=15))
    (M.call (r09_Load m1.stack x1.B x1.C) fun x4=>
     M.bif x4.2.1
       (M.bif (decide (x4.2.2=0))
          (M.chk ((0:Int)≤x1.A∧x1.A<8)<|
           k1 (x4.2.1,x4.2.2,(⟨m1.t,(Arr8AValue.set m1.regs x1.A x4.1),m1.acts,m1.stack,m1.first,m1.deep,m1.input,m1.done,m1.out⟩:R12machine)))
          (k1 (x4.2.1,x4.2.2,m1)))
       (k1 (x4.2.1,x4.2.2,m1)))
    (M.bif (decide (x1.Op = 16))
       (M.chk ((0:Int)≤x1.B∧x1.B<8)<|
        M.call (r09_Store m1.stack x1.A x1.C (Arr8AValue.at_ m1.regs x1.B)) fun x5=>
        k1 (true,x5.2,(⟨m1.t,m1.regs,m1.acts,x5.1,m1.first,m1.deep,m1.input,m1.done,m1.out⟩:R12machine)))
       (M.bif (decide (x1.Op=17))
          (M.call (r09_Move m1.stack x1.A x1.B x1.C) fun x6=>
           k1 (x6.2.1,x6.2.2,(⟨m1.t,m1.regs,m1.acts,x6.1,m1.first,m1.deep,m1.input,m1.done,m1.out⟩:R12machine)))
          (M.ret (false,m1))))
def r12_machine_step (m1 : R12machine) : M (R12machine) :=
  M.chk (okI ((m1.acts.length:Int)- 1))<|
  M.chk (m1.acts.length<1000000000000)<|
  M.chk ((0:Int)≤((m1.acts.length:Int)- 1)∧((m1.acts.length:Int)- 1)<(m1.acts.length:Int))<|
  M.chk ((0:Int)≤(atD m1.acts ((m1.acts.length:Int)- 1)).f∧(atD m1.acts ((m1.acts.length:Int)- 1)).f<(m1.t.Frames.length:Int))<|
  M.chk ((0:Int)≤((m1.acts.length:Int)- 1)∧((m1.acts.length:Int)- 1)<(m1.acts.length:Int))<|
  M.chk ((0:Int)≤(atD m1.acts ((m1.acts.length:Int)- 1)).at_∧(atD m1.acts ((m1.acts.length:Int)- 1)).at_<(((atD m1.t.Frames ((atD m1.acts ((m1.acts.length:Int)- 1)).f)).Code).length:Int))<|
  M.chk (okI (m1.out.Steps+1))<|
  M.chk ((0:Int)≤((m1.acts.length:Int)- 1)∧((m1.acts.length:Int)- 1)<(m1.acts.length:Int))<|
  M.chk (okI (((atD m1.acts ((m1.acts.length:Int)- 1)).at_)+1))<|
  M.chk ((0:Int)≤((m1.acts.length:Int)- 1)∧((m1.acts.length:Int)- 1)<(m1.acts.length:Int))<|
  M.join (fun (l1 : List R12activation) =>
      M.join (fun (l2 : List R12activation) =>
          M.join (fun (x1 : Bool) =>
              M.bif x1
                (M.ret (⟨m1.t,m1.regs,l2,m1.stack,m1.first,m1.deep,m1.input,m1.done,(⟨m1.out.Kind,m1.out.Code,m1.out.Result,m1.out.Trace,(m1.out.Steps+1)⟩:AOutcome)⟩:R12machine))
                (M.bif (decide (((atD ((atD m1.t.Frames ((atD m1.acts ((m1.acts.length : Int) - 1)).f)).Code) ((atD m1.acts ((m1.acts.length : Int) - 1)).at_)).Op) = 22))
                   (M.call (r12_machine_enter (⟨m1.t,m1.regs,l2,m1.stack,m1.first,m1.deep,m1.input,m1.done,(⟨m1.out.Kind,m1.out.Code,m1.out.Result,m1.out.Trace,(m1.out.Steps+1)⟩:AOutcome)⟩:R12machine) ((atD ((atD m1.t.Frames ((atD m1.acts ((m1.acts.length:Int)- 1)).f)).Code) ((atD m1.acts ((m1.acts.length:Int)- 1)).at_)).A)) fun x2=>
                    M.ret x2)
                   (M.bif (decide (((atD ((atD m1.t.Frames ((atD m1.acts ((m1.acts.length : Int) - 1)).f)).Code) ((atD m1.acts ((m1.acts.length : Int) - 1)).at_)).Op) = 23))
                      (M.call (r12_machine_leave (⟨m1.t,m1.regs,l2,m1.stack,m1.first,m1.deep,m1.input,m1.done,(⟨m1.out.Kind,m1.out.Code,m1.out.Result,m1.out.Trace,(m1.out.Steps+1)⟩:AOutcome)⟩:R12machine)) fun x3=>
                       M.ret x3)
                      (M.bif (decide (((atD ((atD m1.t.Frames ((atD m1.acts ((m1.acts.length : Int) - 1)).f)).Code) ((atD m1.acts ((m1.acts.length : Int) - 1)).at_)).Op) = 24))
                         (M.call (r12_machine_end (⟨m1.t,m1.regs,l2,m1.stack,m1.first,m1.deep,m1.input,m1.done,(⟨m1.out.Kind,m1.out.Code,m1.out.Result,m1.out.Trace,(m1.out.Steps+1)⟩:AOutcome)⟩:R12machine) 1) fun x4=>
                          M.ret (⟨x4.t,x4.regs,x4.acts,x4.stack,x4.first,x4.deep,x4.input,x4.done,(⟨x4.out.Kind,(atD ((atD m1.t.Frames ((atD m1.acts ((m1.acts.length:Int)- 1)).f)).Code) ((atD m1.acts ((m1.acts.length:Int)- 1)).at_)).Imm,x4.out.Result,x4.out.Trace,x4.out.Steps⟩:AOutcome)⟩:R12machine))
                         (M.call (r12_machine_memory (⟨m1.t,m1.regs,l2,m1.stack,m1.first,m1.deep,m1.input,m1.done,(⟨m1.out.Kind,m1.out.Code,m1.out.Result,m1.out.Trace,(m1.out.Steps+1)⟩:AOutcome)⟩:R12machine) (atD ((atD m1.t.Frames ((atD m1.acts ((m1.acts.length:Int)- 1)).f)).Code) ((atD m1.acts ((m1.acts.length:Int)- 1)).at_))) fun x5=>
                          M.bif x5.1
                            (M.ret x5.2)
                            (M.call (r08_Plain (atD ((atD m1.t.Frames ((atD m1.acts ((m1.acts.length:Int)- 1)).f)).Code) ((atD m1.acts ((m1.acts.length:Int)- 1)).at_)) x5.2.regs x5.2.input x5.2.out.Trace) fun x6=>
                             M.bif x6.2.2.2
                               (M.call (r12_machine_end (⟨x5.2.t,x6.1,x5.2.acts,x5.2.stack,x5.2.first,x5.2.deep,x6.2.1,x5.2.done,(⟨x5.2.out.Kind,x5.2.out.Code,x5.2.out.Result,x6.2.2.1,x5.2.out.Steps⟩:AOutcome)⟩:R12machine) 2) fun x7=>
                                M.ret x7)
                               (M.ret (⟨x5.2.t,x6.1,x5.2.acts,x5.2.stack,x5.2.first,x5.2.deep,x6.2.1,x5.2.done,(⟨x5.2.out.Kind,x5.2.out.Code,x5.2.out.Result,x6.2.2.1,x5.2.out.Steps⟩:AOutcome)⟩:R12machine)))))))) fun k3=>
          M.bif (decide (((atD ((atD m1.t.Frames ((atD m1.acts ((m1.acts.length:Int)- 1)).f)).Code) ((atD m1.acts ((m1.acts.length:Int)- 1)).at_)).Op)=20))
            (k3 (decide (((atD ((atD m1.t.Frames ((atD m1.acts ((m1.acts.length:Int)- 1)).f)).Code) ((atD m1.acts ((m1.acts.length:Int)- 1)).at_)).Op)=20)))
            (k3 (decide (((atD ((atD m1.t.Frames ((atD m1.acts ((m1.acts.length:Int)- 1)).f)).Code) ((atD m1.acts ((m1.acts.length:Int)- 1)).at_)).Op)=21)))) fun k2=>
      M.bif (decide (((atD ((atD m1.t.Frames ((atD m1.acts ((m1.acts.length:Int)- 1)).f)).Code) ((atD m1.acts ((m1.acts.length:Int)- 1)).at_)).Op)=21))
        (M.chk ((0:Int)≤(atD ((atD m1.t.Frames ((atD m1.acts ((m1.acts.length:Int)- 1)).f)).Code) ((atD m1.acts ((m1.acts.length:Int)- 1)).at_)).A∧(atD ((atD m1.t.Frames ((atD m1.acts ((m1.acts.length:Int)- 1)).f)).Code) ((atD m1.acts ((m1.acts.length:Int)- 1)).at_)).A<8)<|
         M.bif (!decide (((Arr8AValue.at_ m1.regs ((atD ((atD m1.t.Frames ((atD m1.acts ((m1.acts.length:Int)- 1)).f)).Code) ((atD m1.acts ((m1.acts.length:Int)- 1)).at_)).A)).Lo)=0))
           (M.chk ((0:Int)≤((m1.acts.length:Int)- 1)∧((m1.acts.length:Int)- 1)<(l1.length:Int))<|
            k2 (setD l1 ((m1.acts.length:Int)- 1) (⟨(atD l1 ((m1.acts.length:Int)- 1)).f,(atD ((atD m1.t.Frames ((atD m1.acts ((m1.acts.length:Int)- 1)).f)).Code) ((atD m1.acts ((m1.acts.length:Int)- 1)).at_)).B⟩:R12activation)))
           (k2 l1))
        (k2 l1)) fun k1=>
  M.bif (decide (((atD ((atD m1.t.Frames ((atD m1.acts ((m1.acts.length:Int)- 1)).f)).Code) ((atD m1.acts ((m1.acts.length:Int)- 1)).at_)).Op)=20))
    (M.chk ((0:Int)≤((m1.acts.length:Int)- 1)∧((m1.acts.length:Int)- 1)<((setD m1.acts ((m1.acts.length:Int)- 1) (⟨(atD m1.acts ((m1.acts.length:Int)- 1)).f,(((atD m1.acts ((m1.acts.length:Int)- 1)).at_)+1)⟩:R12activation)).length:Int))<|
     k1 (setD (setD m1.acts ((m1.acts.length:Int)- 1) (⟨(atD m1.acts ((m1.acts.length:Int)- 1)).f,(((atD m1.acts ((m1.acts.length:Int)- 1)).at_)+1)⟩:R12activation)) ((m1.acts.length:Int)- 1) (⟨(atD (setD m1.acts ((m1.acts.length:Int)- 1) (⟨(atD m1.acts ((m1.acts.length:Int)- 1)).f,(((atD m1.acts ((m1.acts.length:Int)- 1)).at_)+1)⟩:R12activation)) ((m1.acts.length:Int)- 1)).f,(atD ((atD m1.t.Frames ((atD m1.acts ((m1.acts.length:Int)- 1)).f)).Code) ((atD m1.acts ((m1.acts.length:Int)- 1)).at_)).A⟩:R12activation)))
    (k1 (setD m1.acts ((m1.acts.length:Int)- 1) (⟨(atD m1.acts ((m1.acts.length:Int)- 1)).f,(((atD m1.acts ((m1.acts.length:Int)- 1)).at_)+1)⟩:R12activation)))
def r12_run (t1 : ATarget) (input1 : List Int) (fuel1 : Int) (size1 : Int) : M (AOutcome × Int × Int) :=
  M.call (r10_Check t1) fun x1=>
  M.bif (!decide (x1 = 0))
    (M.ret ((⟨0,0,(⟨0,0⟩:AValue),([]:List AValue),0⟩:AOutcome),0,x1))
    (M.bif (decide (fuel1 < 0))
       (M.ret ((⟨0,0,(⟨0,0⟩:AValue),([]:List AValue),0⟩:AOutcome),0,4))
       (M.bif (decide (100000 < fuel1))
          (M.ret ((⟨0,0,(⟨0,0⟩:AValue),([]:List AValue),0⟩:AOutcome),0,4))
          (M.bif (decide (size1 < 0))
             (M.ret ((⟨0,0,(⟨0,0⟩:AValue),([]:List AValue),0⟩:AOutcome),0,4))
             (M.bif (decide (1048576 < size1))
                (M.ret ((⟨0,0,(⟨0,0⟩:AValue),([]:List AValue),0⟩:AOutcome),0,4))
                (M.call (r09_New size1 t1.Align) fun x2=>
                 M.join (fun (m1:R12machine)=>
                     M.loop (fun again1 (m2:R12machine)=>
                         M.bif (!m2.done)
                           (M.bif (decide (fuel1≤m2.out.Steps))
                              (M.call (r12_machine_end m2 4) fun x3=>
                               M.ret (x3.out,x3.deep,0))
                              (M.call (r12_machine_step m2) fun x4=>
                               again1 x4))
                           (M.ret (m2.out,m2.deep,0))) m1) fun k1=>
                 M.bif (decide (0<fuel1))
                   (M.call (r12_machine_enter (⟨t1,(⟨(⟨0,0⟩:AValue),(⟨0,0⟩:AValue),(⟨0,0⟩:AValue),(⟨0,0⟩:AValue),(⟨0,0⟩:AValue),(⟨0,0⟩:AValue),(⟨0,0⟩:AValue),(⟨0,0⟩:AValue)⟩:Arr8AValue),([]:List R12activation),x2.1,x2.1.SP,0,input1,false,(⟨0,0,(⟨0,0⟩:AValue),([]:List AValue),0⟩:AOutcome)⟩:R12machine) 0) fun x5=>
                    k1 x5)
                   (k1 (⟨t1,(⟨(⟨0,0⟩:AValue),(⟨0,0⟩:AValue),(⟨0,0⟩:AValue),(⟨0,0⟩:AValue),(⟨0,0⟩:AValue),(⟨0,0⟩:AValue),(⟨0,0⟩:AValue),(⟨0,0⟩:AValue)⟩:Arr8AValue),([]:List R12activation),x2.1,x2.1.SP,0,input1,false,(⟨0,0,(⟨0,0⟩:AValue),([]:List AValue),0⟩:AOutcome)⟩:R12machine)))))))
def r12_Run (t1:ATarget) (input1:List Int) (fuel1:Int) (size1:Int):M (AOutcome × Int):=
  M.call (r12_run t1 input1 fuel1 size1) fun x1=>
  M.ret (x1.1,x1.2.2)
def r08_SameTrace (a1:List AValue) (b1:List AValue):M (Bool):=
  M.bif (!decide ((a1.length:Int)=(b1.length:Int)))
    (M.ret false)
    (M.loop (fun again1 (i1 : Int) =>
         M.bif (decide (i1<(a1.length:Int)))
           (M.chk ((0:Int)≤i1∧i1<(a1.length:Int))<|
            M.chk ((0:Int)≤i1∧i1<(b1.length:Int))<|
            M.bif (!decide ((atD a1 i1)=(atD b1 i1)))
              (M.ret false)
              (M.chk (okI (i1+1))<|
               again1 (i1+1)))
           (M.ret true)) 0)
def r08_Same (a1:AOutcome) (b1:AOutcome):M (Bool):=
  M.bif (decide (a1.Kind=b1.Kind))
    (M.bif (decide (a1.Code=b1.Code))
       (M.bif (decide (a1.Result = b1.Result))
          (M.bif (decide (a1.Steps=b1.Steps))
             (M.call (r08_SameTrace a1.Trace b1.Trace) fun x1=>
              M.ret x1)
             (M.ret false))
          (M.ret false))
       (M.ret false))
    (M.ret false)
def law26_LowerBaselineRunsAlike (codes1:List Int) (fuel1:Int):M (Bool):=
  M.call (law26_awake) fun x1=>
  M.bif (!x1)
    (M.ret false)
    (M.call (draw_New codes1 300) fun x2 =>
     M.call (draw_Program x2 4 12) fun x3=>
     M.call (r05_Align x3.1) fun x4=>
     M.call (r26_Baselines x3.1 x4) fun x5=>
     M.call (lower_Target x3.1 x4 x5.1) fun x6=>
     M.bif (!decide (x5.2 = 0))
       (M.ret false)
       (M.bif (!decide (x6.2=0))
          (M.ret false)
          (M.call (draw_Input x3.2) fun x7=>
           M.chk (okI fuel1)<|
           M.call (r08_Run x3.1 x7.1 fuel1) fun x8=>
           M.chk (okI fuel1)<|
           M.call (r12_Run x6.1 x7.1 fuel1 4096) fun x9=>
           M.bif (!decide (x8.2 = 0))
             (M.ret false)
             (M.bif (!decide (x9.2=0))
                (M.ret false)
                (M.bif (decide (x9.1.Kind=6))
                   (M.ret false)
                   (M.bif (decide (x9.1.Kind = 5))
                      (M.ret false)
                      (M.bif (decide (x8.1.Kind=3))
                         (M.ret true)
                         (M.call (r08_Same x8.1 x9.1) fun x10=>
                          M.ret x10))))))))
def r13_Next (f1 : AFunc) (k1 : Int) : M (List Int) :=
  M.bif (decide (k1 < 0))
    (M.ret ([]:List Int))
    (M.bif (decide ((f1.Code.length : Int) ≤ k1))
       (M.ret ([]:List Int))
       (M.chk ((0 : Int) ≤ k1 ∧ k1 < (f1.Code.length : Int)) <|
        M.bif (decide (((atD f1.Code k1).Op)=20))
          (M.ret ([(atD f1.Code k1).A]:List Int))
          (M.join (fun (x1 : Bool) =>
               M.bif x1
                 (M.ret ([]:List Int))
                 (M.bif (decide (((atD f1.Code k1).Op) = 21))
                    (M.chk (okI (k1 + 1)) <|
                     M.bif (decide (((atD f1.Code k1).B)<(k1+1)))
                       (M.chk (okI (k1+1))<|
                        M.ret ([(atD f1.Code k1).B,(k1+1)]:List Int))
                       (M.chk (okI (k1+1))<|
                        M.bif (decide ((k1+1)<((atD f1.Code k1).B)))
                          (M.chk (okI (k1+1))<|
                           M.ret ([(k1+1),(atD f1.Code k1).B]:List Int))
                          (M.chk (okI (k1+1))<|
                           M.ret ([(k1+1)]:List Int))))
                    (M.chk (okI (k1+1))<|
                     M.ret ([(k1+1)]:List Int)))) fun k2=>
           M.bif (decide (((atD f1.Code k1).Op)=23))
             (k2 (decide (((atD f1.Code k1).Op)=23)))
             (k2 (decide (((atD f1.Code k1).Op)=24))))))
def r15_Removable (x1:AInstr):M (Bool):=
  M.bif (decide (x1.Op=16))
    (M.ret true)
    (M.ret (decide (x1.Op=17)))
def r15_Defines (x1:AInstr):M (Int × Bool):=
  M.call (r15_Removable x1) fun x2=>
  M.bif x2
    (M.ret (x1.A,true))
    (M.ret (0,false))
def r04_Remove (s1:List Int) (n1:Int):M (List Int):=
  M.loop (fun again1 ((i1,out1):Int × List Int)=>
      M.bif (decide (i1<(s1.length:Int)))
        (M.chk ((0:Int)≤i1∧i1<(s1.length:Int))<|
         M.bif (!decide ((atD s1 i1)=n1))
           (M.chk ((0:Int)≤i1∧i1<(s1.length:Int))<|
            M.chk (out1.length+([(atD s1 i1)]:List Int).length<1000000000000)<|
            M.chk (okI (i1+1))<|
            again1 ((i1+1),(out1++([(atD s1 i1)]:List Int))))
           (M.chk (okI (i1+1))<|
            again1 ((i1+1),out1)))
        (M.ret out1)) (0,([]:List Int))
def r15_Uses (x1:AInstr):M (List Int):=
  M.bif (decide (x1.Op=15))
    (M.ret ([x1.B]:List Int))
    (M.bif (decide (x1.Op=17))
       (M.ret ([x1.B]:List Int))
       (M.ret ([]:List Int)))
def r04_good (n1:Int):M (Bool):=
  M.bif (decide (0≤n1))
    (M.ret (decide (n1<512)))
    (M.ret false)
def r04_Add (s1 : List Int) (n1 : Int) : M (List Int) :=
  M.call (r04_good n1) fun x1=>
  M.loop (fun again1 ((done1, i1, out1) : Bool × Int × List Int) =>
      M.bif (decide (i1<(s1.length:Int)))
        (M.join (fun ((done2,out2):Bool × List Int)=>
             M.chk ((0:Int)≤i1∧i1<(s1.length:Int))<|
             M.chk (out2.length+([(atD s1 i1)]:List Int).length<1000000000000)<|
             M.chk (okI (i1+1))<|
             again1 (done2,(i1+1),(out2++([(atD s1 i1)]:List Int)))) fun k1=>
         M.bif (!done1)
           (M.chk ((0 : Int) ≤ i1 ∧ i1 < (s1.length : Int)) <|
            M.bif (decide (n1≤(atD s1 i1)))
              (M.chk ((0:Int)≤i1∧i1<(s1.length:Int))<|
               M.bif (decide (n1<(atD s1 i1)))
                 (M.chk (out1.length+([n1]:List Int).length<1000000000000)<|
                  k1 (true,(out1++([n1]:List Int))))
                 (k1 (true,out1)))
              (k1 (done1,out1)))
           (k1 (done1,out1)))
        (M.bif (!done1)
           (M.chk (out1.length+([n1]:List Int).length<1000000000000)<|
            M.ret (out1++([n1]:List Int)))
           (M.ret out1))) ((!x1),0,([]:List Int))
def r04_Union (a1:List Int) (b1:List Int):M (List Int):=
  M.chk (a1.length<1000000000000)<|
  M.loop (fun again1 ((out1,i1):List Int × Int)=>
      M.bif (decide (i1<(b1.length:Int)))
        (M.chk ((0:Int)≤i1∧i1<(b1.length:Int))<|
         M.call (r04_Add out1 (atD b1 i1)) fun x1=>
         M.chk (okI (i1+1))<|
         again1 (x1,(i1+1)))
        (M.ret out1)) (a1,0)
def r15_In (x1:AInstr) (out1:List Int):M (List Int):=
  M.join (fun (out2:List Int)=>
      M.call (r15_Uses x1) fun x2=>
      M.call (r04_Union out2 x2) fun x3=>
      M.ret x3) fun k1=>
  M.call (r15_Defines x1) fun x4=>
  M.bif x4.2
    (M.call (r04_Remove out1 x4.1) fun x5=>
     k1 x5)
    (k1 out1)
def r16_Step (f1:AFunc) (l1:ALive):M (ALive):=
  M.chk ((0:Int)≤(f1.Code.length:Int)∧(f1.Code.length:Int)<1000000000000)<|
  M.loop (fun again1 ((k1,own1):Int × List (List Int))=>
      M.bif (decide (k1<(f1.Code.length:Int)))
        (M.call (r13_Next f1 k1) fun x1 =>
         M.loop (fun again2 ((i1,own2):Int × List (List Int))=>
             M.bif (decide (i1<(x1.length:Int)))
               (M.chk ((0:Int)≤i1∧i1<(x1.length:Int))<|
                M.chk ((0:Int)≤k1∧k1<(own2.length:Int))<|
                M.chk ((0:Int)≤(atD x1 i1)∧(atD x1 i1)<(f1.Code.length:Int))<|
                M.chk ((0:Int)≤(atD x1 i1)∧(atD x1 i1)<(l1.Out.length:Int))<|
                M.call (r15_In (atD f1.Code (atD x1 i1)) (atD l1.Out (atD x1 i1))) fun x2=>
                M.call (r04_Union (atD own2 k1) x2) fun x3=>
                M.chk ((0:Int)≤k1∧k1<(own2.length:Int))<|
                M.chk (okI (i1+1))<|
                again2 ((i1+1),(setD own2 k1 x3)))
               (M.chk (okI (k1+1))<|
                again1 ((k1+1),own2))) (0,own1))
        (M.ret (⟨own1⟩:ALive))) (0,(repD (f1.Code.length:Int):List (List Int)))
def r04_Same (a1:List Int) (b1:List Int):M (Bool):=
  M.bif (!decide ((a1.length:Int)=(b1.length:Int)))
    (M.ret false)
    (M.loop (fun again1 (i1 : Int) =>
         M.bif (decide (i1<(a1.length:Int)))
           (M.chk ((0:Int)≤i1∧i1<(a1.length:Int))<|
            M.chk ((0:Int)≤i1∧i1<(b1.length:Int))<|
            M.bif (!decide ((atD a1 i1)=(atD b1 i1)))
              (M.ret false)
              (M.chk (okI (i1+1))<|
               again1 (i1+1)))
           (M.ret true)) 0)
def r04_SameAll (a1:List (List Int)) (b1:List (List Int)):M (Bool):=
  M.bif (!decide ((a1.length:Int)=(b1.length:Int)))
    (M.ret false)
    (M.loop (fun again1 (i1 : Int) =>
         M.bif (decide (i1<(a1.length:Int)))
           (M.chk ((0:Int)≤i1∧i1<(a1.length:Int))<|
            M.chk ((0:Int)≤i1∧i1<(b1.length:Int))<|
            M.call (r04_Same (atD a1 i1) (atD b1 i1)) fun x1=>
            M.bif (!x1)
              (M.ret false)
              (M.chk (okI (i1+1))<|
               again1 (i1+1)))
           (M.ret true)) 0)
def r16_Same (a1:ALive) (b1:ALive):M (Bool):=
  M.call (r04_SameAll a1.Out b1.Out) fun x1=>
  M.ret x1
def r16_Solve (f1:AFunc):M (ALive):=
  M.chk ((0:Int)≤(f1.Code.length:Int)∧(f1.Code.length:Int)<1000000000000)<|
  M.loop (fun again1 (Out1:List (List Int))=>
      M.call (r16_Step f1 (⟨Out1⟩:ALive)) fun x1=>
      M.call (r16_Same x1 (⟨Out1⟩:ALive)) fun x2=>
      M.bif x2
        (M.ret (⟨Out1⟩:ALive))
        (again1 x1.Out)) (repD (f1.Code.length:Int):List (List Int))
def r03_Overlap (a1:AInterval) (b1:AInterval):M (Bool):=
  M.call (r03_Right a1) fun x1=>
  M.bif x1
    (M.call (r03_Right b1) fun x2=>
     M.bif x2
       (M.bif (decide (0 < a1.Size))
          (M.bif (decide (0 < b1.Size))
             (M.chk (okI (b1.Off+b1.Size))<|
              M.bif (decide (a1.Off<(b1.Off+b1.Size)))
                (M.chk (okI (a1.Off+a1.Size))<|
                 M.ret (decide (b1.Off<(a1.Off+a1.Size))))
                (M.ret false))
             (M.ret false))
          (M.ret false))
       (M.ret false))
    (M.ret false)
def r25_Shape (p1 : AProgram) (i1 : Int) (align1 : Int) (y1 : ALayout) : M (Int) :=
  M.call (r24_Baseline p1 i1 align1) fun x1=>
  M.bif (!decide (x1.2 = 0))
    (M.ret x1.2)
    (M.chk ((0 : Int) ≤ i1 ∧ i1 < (p1.Funcs.length : Int)) <|
     M.call (r24_Args p1 i1) fun x2=>
     M.bif (!decide (y1.Args = x2))
       (M.ret 13)
       (M.bif (!decide ((y1.Off.length : Int) = (((atD p1.Funcs i1).Slots).length : Int)))
          (M.ret 13)
          (M.loop (fun again1 (k1 : Int) =>
               M.bif (decide (k1<(((atD p1.Funcs i1).Slots).length:Int)))
                 (M.chk ((0 : Int) ≤ k1 ∧ k1 < (y1.Off.length : Int)) <|
                  M.bif (decide ((atD y1.Off k1)<y1.Args))
                    (M.ret 13)
                    (M.chk ((0 : Int) ≤ k1 ∧ k1 < (y1.Off.length : Int)) <|
                     M.chk ((0:Int)≤k1∧k1<(((atD p1.Funcs i1).Slots).length:Int))<|
                     M.chk (((atD ((atD p1.Funcs i1).Slots) k1).Align)≠0)<|
                     M.bif (!decide ((Int.tmod (atD y1.Off k1) ((atD ((atD p1.Funcs i1).Slots) k1).Align))=0))
                       (M.ret 13)
                       (M.chk ((0:Int)≤k1∧k1<(y1.Off.length:Int))<|
                        M.chk ((0:Int)≤k1∧k1<(((atD p1.Funcs i1).Slots).length:Int))<|
                        M.call (r03_Inside (⟨(atD y1.Off k1),(atD ((atD p1.Funcs i1).Slots) k1).Size⟩:AInterval) y1.Size) fun x3=>
                        M.bif (!x3)
                          (M.ret 13)
                          (M.chk (okI (k1+1))<|
                           again1 (k1+1)))))
                 (M.chk (align1≠0)<|
                  M.bif (!decide ((Int.tmod y1.Size align1)=0))
                    (M.ret 13)
                    (M.bif (decide (y1.Size<y1.Args))
                       (M.ret 13)
                       (M.bif (decide (x1.1.Size<y1.Size))
                          (M.ret 13)
                          (M.ret 0))))) 0)))
def r25_clash (f1 : AFunc) (l1 : ALive) (y1 : ALayout) (k1 : Int) : M (Int × Bool) :=
  M.chk ((0:Int)≤k1∧k1<(f1.Code.length:Int))<|
  M.call (r15_Defines (atD f1.Code k1)) fun x1=>
  M.join (fun (_ : Unit) =>
      M.loop (fun again1 (i1 : Int) =>
          M.chk ((0:Int)≤k1∧k1<(l1.Out.length:Int))<|
          M.bif (decide (i1<((atD l1.Out k1).length:Int)))
            (M.chk ((0 : Int) ≤ k1 ∧ k1 < (l1.Out.length : Int)) <|
             M.chk ((0:Int)≤i1∧i1<((atD l1.Out k1).length:Int))<|
             M.bif (!decide ((atD (atD l1.Out k1) i1)=x1.1))
               (M.chk ((0:Int)≤(atD (atD l1.Out k1) i1)∧(atD (atD l1.Out k1) i1)<(y1.Off.length:Int))<|
                M.chk ((0:Int)≤(atD (atD l1.Out k1) i1)∧(atD (atD l1.Out k1) i1)<(f1.Slots.length:Int))<|
                M.chk ((0:Int)≤x1.1∧x1.1<(y1.Off.length:Int))<|
                M.chk ((0:Int)≤x1.1∧x1.1<(f1.Slots.length:Int))<|
                M.call (r03_Overlap (⟨(atD y1.Off (atD (atD l1.Out k1) i1)),(atD f1.Slots (atD (atD l1.Out k1) i1)).Size⟩:AInterval) (⟨(atD y1.Off x1.1),(atD f1.Slots x1.1).Size⟩:AInterval)) fun x2=>
                M.bif x2
                  (M.ret ((atD (atD l1.Out k1) i1),true))
                  (M.chk (okI (i1+1))<|
                   again1 (i1+1)))
               (M.chk (okI (i1+1))<|
                again1 (i1+1)))
            (M.ret (0,false))) 0) fun k2=>
  M.bif (!x1.2)
    (M.ret (0,false))
    (M.bif (decide (((atD f1.Code k1).Op)=17))
       (M.chk ((0:Int)≤(atD f1.Code k1).A∧(atD f1.Code k1).A<(y1.Off.length:Int))<|
        M.chk ((0:Int)≤(atD f1.Code k1).B∧(atD f1.Code k1).B<(y1.Off.length:Int))<|
        M.bif (decide ((atD y1.Off ((atD f1.Code k1).A))=(atD y1.Off ((atD f1.Code k1).B))))
          (M.ret (0,false))
          (k2 ()))
       (k2 ()))
end Go.Proofs.YtgbkhjllbgmdcaaGreat.Q
