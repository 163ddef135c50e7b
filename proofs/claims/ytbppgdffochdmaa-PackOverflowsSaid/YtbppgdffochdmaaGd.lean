/- The data of the program, and its functions as lifted texts (written by a program). -/
import Derived.Test.YtbppgdffochdmaaPureB
set_option linter.unusedVariables false
namespace Go.Proofs.Ytbppgdffochdmaa.Q
structure ASlot where
  Size : Int
  Align : Int
  deriving DecidableEq
instance : Inhabited ASlot := ⟨⟨0, 0⟩⟩
structure AInstr where
  Op : Int
  A : Int
  B : Int
  C : Int
  Imm : Int
  deriving DecidableEq
instance : Inhabited AInstr := ⟨⟨0, 0, 0, 0, 0⟩⟩
structure AFunc where
  Params : Int
  Slots : List ASlot
  Code : List AInstr
  deriving DecidableEq
instance : Inhabited AFunc := ⟨⟨0, [], []⟩⟩
structure AProgram where
  Funcs : List AFunc
  deriving DecidableEq
instance : Inhabited AProgram := ⟨⟨[]⟩⟩
structure DCodes where
  list : List Int
  at_ : Int
  deriving DecidableEq
instance : Inhabited DCodes := ⟨⟨[], 0⟩⟩
structure ALayout where
  Args : Int
  Size : Int
  Off : List Int
  deriving DecidableEq
instance : Inhabited ALayout := ⟨⟨0, 0, []⟩⟩
structure AInterval where
  Off : Int
  Size : Int
  deriving DecidableEq
instance : Inhabited AInterval := ⟨⟨0, 0⟩⟩
def pack_Args (p1 : AProgram) (i1 : Int) : M (Int) :=
  M.chk ((0 : Int) ≤ i1 ∧ i1 < (p1.Funcs.length : Int)) <|
  M.loop (fun again1 ((n1, x1) : Int × Int) =>
      M.bif (decide (x1 < (((atD p1.Funcs i1).Code).length : Int)))
        (M.chk ((0 : Int) ≤ x1 ∧ x1 < (((atD p1.Funcs i1).Code).length : Int)) <|
         M.bif (decide (((atD ((atD p1.Funcs i1).Code) x1).Op) = 18))
           (M.chk (okI (((atD ((atD p1.Funcs i1).Code) x1).A) + 1)) <|
            M.chk (okI (x1 + 1)) <|
            again1 ((max n1 (((atD ((atD p1.Funcs i1).Code) x1).A) + 1)), (x1 + 1)))
           (M.bif (decide (((atD ((atD p1.Funcs i1).Code) x1).Op) = 22))
              (M.chk ((0 : Int) ≤ (atD ((atD p1.Funcs i1).Code) x1).A ∧ (atD ((atD p1.Funcs i1).Code) x1).A < (p1.Funcs.length : Int)) <|
               M.chk (okI (x1 + 1)) <|
               again1 ((max n1 ((atD p1.Funcs ((atD ((atD p1.Funcs i1).Code) x1).A)).Params)), (x1 + 1)))
              (M.chk (okI (x1 + 1)) <|
               again1 (n1, (x1 + 1)))))
        (M.chk (okI ((16 : Int) * n1)) <|
         M.ret ((16 : Int) * n1))) (0, 0)
def law24_awake  : M (Bool) :=
  M.call (pack_Args (⟨([(⟨0, ([] : List ASlot), ([(⟨18, 0, 0, 0, 0⟩ : AInstr), (⟨23, 0, 0, 0, 0⟩ : AInstr)] : List AInstr)⟩ : AFunc)] : List AFunc)⟩ : AProgram) 0) fun x1 =>
  M.ret (decide (x1 = 16))
def draw_New (list1 : List Int) (limit1 : Int) : M (DCodes) :=
  M.chk ((0 : Int) ≤ 0 ∧ 0 ≤ (min (list1.length : Int) limit1) ∧ (min (list1.length : Int) limit1) ≤ (list1.length : Int)) <|
  M.ret (⟨(sliceD list1 0 (min (list1.length : Int) limit1)), 0⟩ : DCodes)
def draw_Left (c1 : DCodes) : M (Bool × DCodes) :=
  M.ret ((decide (c1.at_ < (c1.list.length : Int))), c1)
def draw_Next (c1 : DCodes) (n1 : Int) : M (Int × DCodes) :=
  M.call (draw_Left c1) fun x1 =>
  M.bif (!x1.1)
    (M.ret (0, x1.2))
    (M.bif (decide (n1 < 1))
       (M.ret (0, x1.2))
       (M.chk ((0 : Int) ≤ x1.2.at_ ∧ x1.2.at_ < (x1.2.list.length : Int)) <|
        M.chk (okI (atD x1.2.list x1.2.at_)) <|
        M.chk (okI (x1.2.at_ + 1)) <|
        M.chk (okI ((atD x1.2.list x1.2.at_) * n1)) <|
        M.chk ((0 : Int) ≤ ((atD x1.2.list x1.2.at_) * n1) ∧ (0 : Int) < 256 ∧ ((atD x1.2.list x1.2.at_) * n1) ≤ 9223372036854775807) <|
        M.ret ((((atD x1.2.list x1.2.at_) * n1) / 256), (⟨x1.2.list, (x1.2.at_ + 1)⟩ : DCodes))))
def draw_Slot (c1 : DCodes) : M (ASlot × DCodes) :=
  M.call (draw_Next c1 7) fun x1 =>
  M.chk ((0 : Int) ≤ x1.1 ∧ x1.1 < (([8, 4, 8, 1, 2, 16, 8] : List Int).length : Int)) <|
  M.call (draw_Next x1.2 8) fun x2 =>
  M.chk ((0 : Int) ≤ x2.1 ∧ x2.1 < (([8, 4, 1, 8, 16, 2, 32, 64] : List Int).length : Int)) <|
  M.ret ((⟨(atD ([8, 4, 8, 1, 2, 16, 8] : List Int) x1.1), (atD ([8, 4, 1, 8, 16, 2, 32, 64] : List Int) x2.1)⟩ : ASlot), x2.2)
def draw_Slots (c1 : DCodes) (most1 : Int) : M (List ASlot × DCodes) :=
  M.chk (okI (most1 + 1)) <|
  M.call (draw_Next c1 (most1 + 1)) fun x1 =>
  M.loop (fun again1 ((n1, c2, l1) : Int × DCodes × List ASlot) =>
      M.bif (decide (0 < n1))
        (M.call (draw_Slot c2) fun x2 =>
         M.chk (l1.length + ([x2.1] : List ASlot).length < 1000000000000) <|
         M.chk (okI (n1 - 1)) <|
         again1 ((n1 - 1), x2.2, (l1 ++ ([x2.1] : List ASlot))))
        (M.ret (l1, c2))) (x1.1, x1.2, ([] : List ASlot))
def draw_like (c1 : DCodes) (f1 : AFunc) (s1 : Int) : M (Int × DCodes) :=
  M.loop (fun again1 ((k1, l1) : Int × List Int) =>
      M.bif (decide (k1 < (f1.Slots.length : Int)))
        (M.chk ((0 : Int) ≤ k1 ∧ k1 < (f1.Slots.length : Int)) <|
         M.chk ((0 : Int) ≤ s1 ∧ s1 < (f1.Slots.length : Int)) <|
         M.bif (decide (((atD f1.Slots k1).Size) = ((atD f1.Slots s1).Size)))
           (M.chk (l1.length + ([k1] : List Int).length < 1000000000000) <|
            M.chk (okI (k1 + 1)) <|
            again1 ((k1 + 1), (l1 ++ ([k1] : List Int))))
           (M.chk (okI (k1 + 1)) <|
            again1 ((k1 + 1), l1)))
        (M.call (draw_Next c1 (l1.length : Int)) fun x1 =>
         M.chk ((0 : Int) ≤ x1.1 ∧ x1.1 < (l1.length : Int)) <|
         M.ret ((atD l1 x1.1), x1.2))) (0, ([] : List Int))
def draw_Word (c1 : DCodes) : M (Int × DCodes) :=
  M.call (draw_Next c1 6) fun x1 =>
  M.bif (decide (x1.1 = 0))
    (M.call (draw_Next x1.2 3) fun x2 =>
     M.chk ((0 : Int) ≤ x2.1 ∧ x2.1 ≤ 18446744073709551615) <|
     M.chk ((0 : Int) ≤ (18446744073709551615 : Int) - x2.1 ∧ (18446744073709551615 : Int) - x2.1 ≤ 18446744073709551615) <|
     M.ret (((18446744073709551615 : Int) - x2.1), x2.2))
    (M.bif (decide (x1.1 = 1))
       (M.call (draw_Next x1.2 64) fun x3 =>
        M.chk ((0 : Int) ≤ x3.1 ∧ x3.1 ≤ 64 ∧ (0 ≤ (1 : Int) * 2 ^ x3.1.toNat ∧ (1 : Int) * 2 ^ x3.1.toNat ≤ 18446744073709551615)) <|
        M.ret (((1 : Int) * 2 ^ x3.1.toNat), x3.2))
       (M.bif (decide (x1.1 = 2))
          (M.ret (0, x1.2))
          (M.call (draw_Next x1.2 256) fun x4 =>
           M.chk ((0 : Int) ≤ x4.1 ∧ x4.1 ≤ 18446744073709551615) <|
           M.ret (x4.1, x4.2))))
def draw_body (c1 : DCodes) (f1 : AFunc) (i1 : Int) (params1 : List Int) : M (List AInstr × DCodes) :=
  M.call (draw_Next c1 4) fun x1 =>
  M.call (draw_Next x1.2 20) fun x2 =>
  M.join (fun (x3 : Bool) =>
      M.bif x3
        (M.call (draw_Next x2.2 (f1.Slots.length : Int)) fun x4 =>
         M.ret (([(⟨16, x4.1, x1.1, 0, 0⟩ : AInstr)] : List AInstr), x4.2))
        (M.join (fun (x5 : Bool) =>
             M.bif x5
               (M.call (draw_Next x2.2 (f1.Slots.length : Int)) fun x6 =>
                M.ret (([(⟨15, x1.1, x6.1, 0, 0⟩ : AInstr)] : List AInstr), x6.2))
               (M.join (fun (x7 : Bool) =>
                    M.bif x7
                      (M.call (draw_Next x2.2 (f1.Slots.length : Int)) fun x8 =>
                       M.call (draw_like x8.2 f1 x8.1) fun x9 =>
                       M.ret (([(⟨17, x9.1, x8.1, 0, 0⟩ : AInstr)] : List AInstr), x9.2))
                      (M.bif (decide (x2.1 < 11))
                         (M.call (draw_Word x2.2) fun x10 =>
                          M.ret (([(⟨0, x1.1, 0, 0, x10.1⟩ : AInstr)] : List AInstr), x10.2))
                         (M.bif (decide (x2.1 < 13))
                            (M.call (draw_Next x2.2 10) fun x11 =>
                             M.chk (okI ((2 : Int) + x11.1)) <|
                             M.call (draw_Next x11.2 4) fun x12 =>
                             M.call (draw_Next x12.2 8) fun x13 =>
                             M.ret (([(⟨((2 : Int) + x11.1), x1.1, x12.1, x13.1, 0⟩ : AInstr)] : List AInstr), x13.2))
                            (M.bif (decide (x2.1 < 15))
                               (M.ret (([(⟨14, x1.1, 0, 0, 0⟩ : AInstr)] : List AInstr), x2.2))
                               (M.bif (decide (x2.1 = 15))
                                  (M.call (draw_Next x2.2 3) fun x14 =>
                                   M.chk ((0 : Int) ≤ x14.1 ∧ x14.1 < (([13, 12, 1] : List Int).length : Int)) <|
                                   M.ret (([(⟨(atD ([13, 12, 1] : List Int) x14.1), x1.1, 0, 0, 0⟩ : AInstr)] : List AInstr), x14.2))
                                  (M.join (fun (x15 : Bool) =>
                                       M.bif x15
                                         (M.call (draw_Next x2.2 f1.Params) fun x16 =>
                                          M.ret (([(⟨19, x1.1, x16.1, 0, 0⟩ : AInstr)] : List AInstr), x16.2))
                                         (M.bif (decide (17 ≤ x2.1))
                                            (M.chk (okI (i1 + 1)) <|
                                             M.bif (decide ((i1 + 1) < (params1.length : Int)))
                                               (M.chk (okI (i1 + 1)) <|
                                                M.chk (okI ((params1.length : Int) - i1)) <|
                                                M.chk (okI (((params1.length : Int) - i1) - 1)) <|
                                                M.call (draw_Next x2.2 (((params1.length : Int) - i1) - 1)) fun x17 =>
                                                M.chk (okI ((i1 + 1) + x17.1)) <|
                                                M.loop (fun again1 ((a1, c2, out1) : Int × DCodes × List AInstr) =>
                                                    M.chk ((0 : Int) ≤ ((i1 + 1) + x17.1) ∧ ((i1 + 1) + x17.1) < (params1.length : Int)) <|
                                                    M.bif (decide (a1 < (atD params1 ((i1 + 1) + x17.1))))
                                                      (M.call (draw_Next c2 8) fun x18 =>
                                                       M.bif (decide (x18.1 < 7))
                                                         (M.call (draw_Next x18.2 4) fun x19 =>
                                                          M.chk (out1.length + ([(⟨18, a1, x19.1, 0, 0⟩ : AInstr)] : List AInstr).length < 1000000000000) <|
                                                          M.chk (okI (a1 + 1)) <|
                                                          again1 ((a1 + 1), x19.2, (out1 ++ ([(⟨18, a1, x19.1, 0, 0⟩ : AInstr)] : List AInstr))))
                                                         (M.chk (okI (a1 + 1)) <|
                                                          again1 ((a1 + 1), x18.2, out1)))
                                                      (M.chk (out1.length + ([(⟨22, ((i1 + 1) + x17.1), 0, 0, 0⟩ : AInstr)] : List AInstr).length < 1000000000000) <|
                                                       M.ret ((out1 ++ ([(⟨22, ((i1 + 1) + x17.1), 0, 0, 0⟩ : AInstr)] : List AInstr)), c2))) (0, x17.2, ([] : List AInstr)))
                                               (M.ret (([(⟨14, x1.1, 0, 0, 0⟩ : AInstr)] : List AInstr), x2.2)))
                                            (M.ret (([(⟨14, x1.1, 0, 0, 0⟩ : AInstr)] : List AInstr), x2.2)))) fun k4 =>
                                   M.bif (decide (x2.1 = 16))
                                     (k4 (decide (0 < f1.Params)))
                                     (k4 false))))))) fun k3 =>
                M.bif (decide (x2.1 < 9))
                  (k3 (decide (0 < (f1.Slots.length : Int))))
                  (k3 false))) fun k2 =>
         M.bif (decide (x2.1 < 6))
           (k2 (decide (0 < (f1.Slots.length : Int))))
           (k2 false))) fun k1 =>
  M.bif (decide (x2.1 < 3))
    (k1 (decide (0 < (f1.Slots.length : Int))))
    (k1 false)
def draw_function (c1 : DCodes) (i1 : Int) (params1 : List Int) (most1 : Int) : M (AFunc × DCodes) :=
  M.chk ((0 : Int) ≤ i1 ∧ i1 < (params1.length : Int)) <|
  M.call (draw_Slots c1 6) fun x1 =>
  M.loop (fun again1 ((s1, c2, code1) : Int × DCodes × List AInstr) =>
      M.bif (decide (s1 < (x1.1.length : Int)))
        (M.call (draw_Next c2 4) fun x2 =>
         M.bif (decide (x2.1 < 3))
           (M.call (draw_Next x2.2 4) fun x3 =>
            M.chk (code1.length + ([(⟨16, s1, x3.1, 0, 0⟩ : AInstr)] : List AInstr).length < 1000000000000) <|
            M.chk (okI (s1 + 1)) <|
            again1 ((s1 + 1), x3.2, (code1 ++ ([(⟨16, s1, x3.1, 0, 0⟩ : AInstr)] : List AInstr))))
           (M.chk (okI (s1 + 1)) <|
            again1 ((s1 + 1), x2.2, code1)))
        (M.chk (okI (most1 + 1)) <|
         M.call (draw_Next c2 (most1 + 1)) fun x4 =>
         M.loop (fun again2 ((n2, c3, code2) : Int × DCodes × List AInstr) =>
             M.bif (decide (0 < n2))
               (M.call (draw_body c3 (⟨(atD params1 i1), x1.1, ([] : List AInstr)⟩ : AFunc) i1 params1) fun x5 =>
                M.chk (code2.length + x5.1.length < 1000000000000) <|
                M.call (draw_Next x5.2 9) fun x6 =>
                M.bif (decide (x6.1 = 7))
                  (M.call (draw_Next x6.2 4) fun x7 =>
                   M.chk ((code2 ++ x5.1).length + ([(⟨21, x7.1, (-1), 0, 0⟩ : AInstr)] : List AInstr).length < 1000000000000) <|
                   M.chk (okI (n2 - 1)) <|
                   again2 ((n2 - 1), x7.2, ((code2 ++ x5.1) ++ ([(⟨21, x7.1, (-1), 0, 0⟩ : AInstr)] : List AInstr))))
                  (M.bif (decide (x6.1 = 8))
                     (M.call (draw_Next x6.2 3) fun x8 =>
                      M.bif (decide (x8.1 = 2))
                        (M.chk ((code2 ++ x5.1).length + ([(⟨20, (-1), 0, 0, 0⟩ : AInstr)] : List AInstr).length < 1000000000000) <|
                         M.chk (okI (n2 - 1)) <|
                         again2 ((n2 - 1), x8.2, ((code2 ++ x5.1) ++ ([(⟨20, (-1), 0, 0, 0⟩ : AInstr)] : List AInstr))))
                        (M.chk (okI (n2 - 1)) <|
                         again2 ((n2 - 1), x8.2, (code2 ++ x5.1))))
                     (M.chk (okI (n2 - 1)) <|
                      again2 ((n2 - 1), x6.2, (code2 ++ x5.1)))))
               (M.join (fun ((c4, Op1, Imm1) : DCodes × Int × Int) =>
                    M.chk (code2.length + ([(⟨Op1, 0, 0, 0, Imm1⟩ : AInstr)] : List AInstr).length < 1000000000000) <|
                    M.loop (fun again3 ((k2, c5, code3) : Int × DCodes × List AInstr) =>
                        M.bif (decide (k2 < (code3.length : Int)))
                          (M.call (draw_Next c5 8) fun x9 =>
                           M.chk (okI (k2 + x9.1)) <|
                           M.chk (okI ((k2 + x9.1) - 2)) <|
                           M.join (fun (to1 : Int) =>
                               M.chk ((0 : Int) ≤ k2 ∧ k2 < (code3.length : Int)) <|
                               M.bif (decide (((atD code3 k2).Op) = 20))
                                 (M.chk ((0 : Int) ≤ k2 ∧ k2 < (code3.length : Int)) <|
                                  M.bif (decide (((atD code3 k2).A) < 0))
                                    (M.chk ((0 : Int) ≤ k2 ∧ k2 < (code3.length : Int)) <|
                                     M.chk (okI (k2 + 1)) <|
                                     again3 ((k2 + 1), x9.2, (setD code3 k2 (⟨(atD code3 k2).Op, to1, (atD code3 k2).B, (atD code3 k2).C, (atD code3 k2).Imm⟩ : AInstr))))
                                    (M.chk ((0 : Int) ≤ k2 ∧ k2 < (code3.length : Int)) <|
                                     M.bif (decide (((atD code3 k2).Op) = 21))
                                       (M.chk ((0 : Int) ≤ k2 ∧ k2 < (code3.length : Int)) <|
                                        M.bif (decide (((atD code3 k2).B) < 0))
                                          (M.chk ((0 : Int) ≤ k2 ∧ k2 < (code3.length : Int)) <|
                                           M.chk (okI (k2 + 1)) <|
                                           again3 ((k2 + 1), x9.2, (setD code3 k2 (⟨(atD code3 k2).Op, (atD code3 k2).A, to1, (atD code3 k2).C, (atD code3 k2).Imm⟩ : AInstr))))
                                          (M.chk (okI (k2 + 1)) <|
                                           again3 ((k2 + 1), x9.2, code3)))
                                       (M.chk (okI (k2 + 1)) <|
                                        again3 ((k2 + 1), x9.2, code3))))
                                 (M.chk ((0 : Int) ≤ k2 ∧ k2 < (code3.length : Int)) <|
                                  M.bif (decide (((atD code3 k2).Op) = 21))
                                    (M.chk ((0 : Int) ≤ k2 ∧ k2 < (code3.length : Int)) <|
                                     M.bif (decide (((atD code3 k2).B) < 0))
                                       (M.chk ((0 : Int) ≤ k2 ∧ k2 < (code3.length : Int)) <|
                                        M.chk (okI (k2 + 1)) <|
                                        again3 ((k2 + 1), x9.2, (setD code3 k2 (⟨(atD code3 k2).Op, (atD code3 k2).A, to1, (atD code3 k2).C, (atD code3 k2).Imm⟩ : AInstr))))
                                       (M.chk (okI (k2 + 1)) <|
                                        again3 ((k2 + 1), x9.2, code3)))
                                    (M.chk (okI (k2 + 1)) <|
                                     again3 ((k2 + 1), x9.2, code3)))) fun k3 =>
                           M.bif (decide (((k2 + x9.1) - 2) < 0))
                             (M.chk (okI ((code3.length : Int) - 1)) <|
                              k3 ((code3.length : Int) - 1))
                             (M.bif (decide ((code3.length : Int) ≤ ((k2 + x9.1) - 2)))
                                (M.chk (okI ((code3.length : Int) - 1)) <|
                                 k3 ((code3.length : Int) - 1))
                                (k3 ((k2 + x9.1) - 2))))
                          (M.ret ((⟨(atD params1 i1), x1.1, code3⟩ : AFunc), c5))) (0, c4, (code2 ++ ([(⟨Op1, 0, 0, 0, Imm1⟩ : AInstr)] : List AInstr)))) fun k1 =>
                M.call (draw_Next c3 12) fun x10 =>
                M.bif (decide (x10.1 = 11))
                  (M.call (draw_Word x10.2) fun x11 =>
                   k1 (x11.2, 24, x11.1))
                  (k1 (x10.2, 23, 0)))) (x4.1, x4.2, code1))) (0, x1.2, ([] : List AInstr))
def draw_Program (c1 : DCodes) (funcs1 : Int) (most1 : Int) : M (AProgram × DCodes) :=
  M.call (draw_Next c1 funcs1) fun x1 =>
  M.loop (fun again1 ((n1, c2, params1) : Int × DCodes × List Int) =>
      M.bif (decide (0 < n1))
        (M.call (draw_Next c2 4) fun x2 =>
         M.chk (params1.length + ([x2.1] : List Int).length < 1000000000000) <|
         M.chk (okI (n1 - 1)) <|
         again1 ((n1 - 1), x2.2, (params1 ++ ([x2.1] : List Int))))
        (M.loop (fun again2 ((params2, i1, c3, Funcs1) : List Int × Int × DCodes × List AFunc) =>
             M.bif (decide (i1 < (params2.length : Int)))
               (M.chk (Funcs1.length < 1000000000000) <|
                M.call (draw_function c3 i1 params2 most1) fun x3 =>
                M.chk (Funcs1.length + ([x3.1] : List AFunc).length < 1000000000000) <|
                M.chk (okI (i1 + 1)) <|
                again2 (params2, (i1 + 1), x3.2, (Funcs1 ++ ([x3.1] : List AFunc))))
               (M.ret ((⟨Funcs1⟩ : AProgram), c3))) (params1, 0, c2, ([] : List AFunc)))) (x1.1, x1.2, ([0] : List Int))
def r02_Size (n1 : Int) : M (Bool) :=
  M.bif (decide (n1 = 1))
    (M.ret true)
    (M.bif (decide (n1 = 2))
       (M.ret true)
       (M.bif (decide (n1 = 4))
          (M.ret true)
          (M.bif (decide (n1 = 8))
             (M.ret true)
             (M.ret (decide (n1 = 16))))))
def r03_Power (n1 : Int) : M (Bool) :=
  M.loop (fun again1 (k1 : Int) =>
      M.bif (decide (k1 ≤ 16777216))
        (M.bif (decide (n1 = k1))
           (M.ret true)
           (M.chk (okI (k1 * 2)) <|
            again1 (k1 * 2)))
        (M.ret false)) 1
def r03_Slots (s1 : List ASlot) : M (Int) :=
  M.bif (decide (512 < (s1.length : Int)))
    (M.ret 3)
    (M.loop (fun again1 (i1 : Int) =>
         M.bif (decide (i1 < (s1.length : Int)))
           (M.chk ((0 : Int) ≤ i1 ∧ i1 < (s1.length : Int)) <|
            M.call (r02_Size ((atD s1 i1).Size)) fun x1 =>
            M.bif (!x1)
              (M.ret 5)
              (M.chk ((0 : Int) ≤ i1 ∧ i1 < (s1.length : Int)) <|
               M.call (r03_Power ((atD s1 i1).Align)) fun x2 =>
               M.bif (!x2)
                 (M.ret 5)
                 (M.chk (okI (i1 + 1)) <|
                  again1 (i1 + 1))))
           (M.ret 0)) 0)
def r03_Align (s1 : List ASlot) : M (Int) :=
  M.call (r03_Slots s1) fun x1 =>
  M.bif (!decide (x1 = 0))
    (M.ret 16)
    (M.loop (fun again1 ((a1, i1) : Int × Int) =>
         M.bif (decide (i1 < (s1.length : Int)))
           (M.chk ((0 : Int) ≤ i1 ∧ i1 < (s1.length : Int)) <|
            M.chk (okI (i1 + 1)) <|
            again1 ((max a1 ((atD s1 i1).Align)), (i1 + 1)))
           (M.ret a1)) (16, 0))
def r05_Align (p1 : AProgram) : M (Int) :=
  M.loop (fun again1 ((a1, i1) : Int × Int) =>
      M.bif (decide (i1 < (p1.Funcs.length : Int)))
        (M.chk ((0 : Int) ≤ i1 ∧ i1 < (p1.Funcs.length : Int)) <|
         M.call (r03_Align ((atD p1.Funcs i1).Slots)) fun x1 =>
         M.chk (okI (i1 + 1)) <|
         again1 ((max a1 x1), (i1 + 1)))
        (M.ret a1)) (16, 0)
def law24_scene (codes1 : List Int) : M (AProgram × Int × Int × DCodes) :=
  M.call (draw_New codes1 250) fun x1 =>
  M.call (draw_Program x1 3 12) fun x2 =>
  M.call (draw_Next x2.2 (x2.1.Funcs.length : Int)) fun x3 =>
  M.call (r05_Align x2.1) fun x4 =>
  M.call (draw_Next x3.2 3) fun x5 =>
  M.chk ((0 : Int) ≤ x5.1 ∧ x5.1 ≤ 64 ∧ okI (x4 * 2 ^ x5.1.toNat)) <|
  M.ret (x2.1, x3.1, (x4 * 2 ^ x5.1.toNat), x5.2)
def extent_bound (n1 : Int) : M (Bool) :=
  M.bif (decide (0 ≤ n1))
    (M.ret (decide (n1 ≤ 2147483647)))
    (M.ret false)
def extent_Power (n1 : Int) : M (Bool) :=
  M.bif (decide (1 ≤ n1))
    (M.bif (decide (n1 ≤ 16777216))
       (M.chk (okI (n1 - 1)) <|
        M.ret (decide ((Go.bits .and .i64 n1 (n1 - 1)) = 0)))
       (M.ret false))
    (M.ret false)
def extent_up (n1 : Int) (align1 : Int) : M (Int) :=
  M.chk (okI (n1 + align1)) <|
  M.chk (okI ((n1 + align1) - 1)) <|
  M.chk (okI (align1 - 1)) <|
  M.ret (Go.bits .andNot .i64 ((n1 + align1) - 1) (align1 - 1))
def extent_limited (n1 : Int) : M (Int × Int) :=
  M.bif (decide (2147483647 < n1))
    (M.ret (0, 9))
    (M.ret (n1, 0))
def extent_Up (n1 : Int) (align1 : Int) : M (Int × Int) :=
  M.call (extent_bound n1) fun x1 =>
  M.bif (!x1)
    (M.ret (0, 4))
    (M.call (extent_Power align1) fun x2 =>
     M.bif (!x2)
       (M.ret (0, 4))
       (M.call (extent_up n1 align1) fun x3 =>
        M.call (extent_limited x3) fun x4 =>
        M.ret (x4.1, x4.2)))
def extent_Add (x1 : Int) (y1 : Int) : M (Int × Int) :=
  M.call (extent_bound x1) fun x2 =>
  M.bif (!x2)
    (M.ret (0, 4))
    (M.call (extent_bound y1) fun x3 =>
     M.bif (!x3)
       (M.ret (0, 4))
       (M.chk (okI (x1 + y1)) <|
        M.call (extent_limited (x1 + y1)) fun x4 =>
        M.ret (x4.1, x4.2)))
def pack_sized (y1 : ALayout) (end1 : Int) (align1 : Int) : M (ALayout × Int) :=
  M.call (extent_Up end1 align1) fun x1 =>
  M.join (fun (e1 : Int) =>
      M.bif (!decide (e1 = 0))
        (M.ret ((⟨0, 0, ([] : List Int)⟩ : ALayout), 9))
        (M.ret ((⟨y1.Args, x1.1, y1.Off⟩ : ALayout), 0))) fun k1 =>
  M.bif (decide (x1.2 = 0))
    (M.call (extent_Add x1.1 128) fun x2 =>
     k1 x2.2)
    (k1 x1.2)
def pack_Baseline (p1 : AProgram) (i1 : Int) (align1 : Int) : M (ALayout × Int) :=
  M.call (pack_Args p1 i1) fun x1 =>
  M.chk ((0 : Int) ≤ i1 ∧ i1 < (p1.Funcs.length : Int)) <|
  M.loop (fun again1 ((end1, x2, own1) : Int × Int × List Int) =>
      M.bif (decide (x2 < (((atD p1.Funcs i1).Slots).length : Int)))
        (M.chk ((0 : Int) ≤ x2 ∧ x2 < (((atD p1.Funcs i1).Slots).length : Int)) <|
         M.call (extent_Up end1 ((atD ((atD p1.Funcs i1).Slots) x2).Align)) fun x3 =>
         M.join (fun ((end2, e1) : Int × Int) =>
             M.bif (!decide (e1 = 0))
               (M.ret ((⟨0, 0, ([] : List Int)⟩ : ALayout), 9))
               (M.chk (own1.length + ([x3.1] : List Int).length < 1000000000000) <|
                M.chk (okI (x2 + 1)) <|
                again1 (end2, (x2 + 1), (own1 ++ ([x3.1] : List Int))))) fun k1 =>
         M.bif (decide (x3.2 = 0))
           (M.call (extent_Add x3.1 ((atD ((atD p1.Funcs i1).Slots) x2).Size)) fun x4 =>
            k1 (x4.1, x4.2))
           (k1 (end1, x3.2)))
        (M.call (pack_sized (⟨x1, 0, own1⟩ : ALayout) end1 align1) fun x5 =>
         M.ret (x5.1, x5.2))) (x1, 0, ([] : List Int))
def r24_Args (p1 : AProgram) (i1 : Int) : M (Int) :=
  M.chk ((0 : Int) ≤ i1 ∧ i1 < (p1.Funcs.length : Int)) <|
  M.loop (fun again1 ((n1, k1) : Int × Int) =>
      M.bif (decide (k1 < (((atD p1.Funcs i1).Code).length : Int)))
        (M.chk ((0 : Int) ≤ k1 ∧ k1 < (((atD p1.Funcs i1).Code).length : Int)) <|
         M.bif (decide (((atD ((atD p1.Funcs i1).Code) k1).Op) = 18))
           (M.chk ((0 : Int) ≤ k1 ∧ k1 < (((atD p1.Funcs i1).Code).length : Int)) <|
            M.chk (okI (((atD ((atD p1.Funcs i1).Code) k1).A) + 1)) <|
            M.chk (okI (k1 + 1)) <|
            again1 ((max n1 (((atD ((atD p1.Funcs i1).Code) k1).A) + 1)), (k1 + 1)))
           (M.bif (decide (((atD ((atD p1.Funcs i1).Code) k1).Op) = 22))
              (M.chk ((0 : Int) ≤ k1 ∧ k1 < (((atD p1.Funcs i1).Code).length : Int)) <|
               M.chk ((0 : Int) ≤ (atD ((atD p1.Funcs i1).Code) k1).A ∧ (atD ((atD p1.Funcs i1).Code) k1).A < (p1.Funcs.length : Int)) <|
               M.chk (okI (k1 + 1)) <|
               again1 ((max n1 ((atD p1.Funcs ((atD ((atD p1.Funcs i1).Code) k1).A)).Params)), (k1 + 1)))
              (M.chk (okI (k1 + 1)) <|
               again1 (n1, (k1 + 1)))))
        (M.chk (okI (n1 * 16)) <|
         M.ret (n1 * 16))) (0, 0)
def r03_Bound (n1 : Int) : M (Bool) :=
  M.bif (decide (0 ≤ n1))
    (M.ret (decide (n1 ≤ 2147483647)))
    (M.ret false)
def r03_Up (n1 : Int) (align1 : Int) : M (Int × Int) :=
  M.call (r03_Bound n1) fun x1 =>
  M.bif (!x1)
    (M.ret (0, 4))
    (M.call (r03_Power align1) fun x2 =>
     M.bif (!x2)
       (M.ret (0, 4))
       (M.join (fun (m1 : Int) =>
            M.bif (decide (2147483647 < m1))
              (M.ret (0, 9))
              (M.ret (m1, 0))) fun k1 =>
        M.chk ((0 : Int) ≤ n1 ∧ (0 : Int) < align1) <|
        M.bif (!decide ((n1 % align1) = 0))
          (M.chk ((0 : Int) ≤ n1 ∧ (0 : Int) < align1) <|
           M.chk (okI (n1 - (n1 % align1))) <|
           M.chk (okI ((n1 - (n1 % align1)) + align1)) <|
           k1 ((n1 - (n1 % align1)) + align1))
          (k1 n1)))
def r24_Baseline (p1 : AProgram) (i1 : Int) (align1 : Int) : M (ALayout × Int) :=
  M.call (r24_Args p1 i1) fun x1 =>
  M.chk ((0 : Int) ≤ i1 ∧ i1 < (p1.Funcs.length : Int)) <|
  M.loop (fun again1 ((end1, k1, Off1) : Int × Int × List Int) =>
      M.bif (decide (k1 < (((atD p1.Funcs i1).Slots).length : Int)))
        (M.chk ((0 : Int) ≤ k1 ∧ k1 < (((atD p1.Funcs i1).Slots).length : Int)) <|
         M.call (r03_Up end1 ((atD ((atD p1.Funcs i1).Slots) k1).Align)) fun x2 =>
         M.bif (!decide (x2.2 = 0))
           (M.ret ((⟨0, 0, ([] : List Int)⟩ : ALayout), 9))
           (M.chk ((0 : Int) ≤ k1 ∧ k1 < (((atD p1.Funcs i1).Slots).length : Int)) <|
            M.chk (okI ((2147483519 : Int) - ((atD ((atD p1.Funcs i1).Slots) k1).Size))) <|
            M.bif (decide (((2147483519 : Int) - ((atD ((atD p1.Funcs i1).Slots) k1).Size)) < x2.1))
              (M.ret ((⟨0, 0, ([] : List Int)⟩ : ALayout), 9))
              (M.chk (Off1.length < 1000000000000) <|
               M.chk (Off1.length + ([x2.1] : List Int).length < 1000000000000) <|
               M.chk ((0 : Int) ≤ k1 ∧ k1 < (((atD p1.Funcs i1).Slots).length : Int)) <|
               M.chk (okI (x2.1 + ((atD ((atD p1.Funcs i1).Slots) k1).Size))) <|
               M.chk (okI (k1 + 1)) <|
               again1 ((x2.1 + ((atD ((atD p1.Funcs i1).Slots) k1).Size)), (k1 + 1), (Off1 ++ ([x2.1] : List Int))))))
        (M.call (r03_Up end1 align1) fun x3 =>
         M.bif (!decide (x3.2 = 0))
           (M.ret ((⟨0, 0, ([] : List Int)⟩ : ALayout), 9))
           (M.bif (decide (2147483519 < x3.1))
              (M.ret ((⟨0, 0, ([] : List Int)⟩ : ALayout), 9))
              (M.ret ((⟨x1, x3.1, Off1⟩ : ALayout), 0))))) (x1, 0, ([] : List Int))
def r24_Same (a1 : ALayout) (b1 : ALayout) : M (Bool) :=
  M.bif (!decide (a1.Args = b1.Args))
    (M.ret false)
    (M.bif (!decide (a1.Size = b1.Size))
       (M.ret false)
       (M.bif (!decide ((a1.Off.length : Int) = (b1.Off.length : Int)))
          (M.ret false)
          (M.loop (fun again1 (i1 : Int) =>
               M.bif (decide (i1 < (a1.Off.length : Int)))
                 (M.chk ((0 : Int) ≤ i1 ∧ i1 < (a1.Off.length : Int)) <|
                  M.chk ((0 : Int) ≤ i1 ∧ i1 < (b1.Off.length : Int)) <|
                  M.bif (!decide ((atD a1.Off i1) = (atD b1.Off i1)))
                    (M.ret false)
                    (M.chk (okI (i1 + 1)) <|
                     again1 (i1 + 1)))
                 (M.ret true)) 0)))
def law24_PackBaseline (codes1 : List Int) : M (Bool) :=
  M.call (law24_awake) fun x1 =>
  M.bif (!x1)
    (M.ret false)
    (M.call (law24_scene codes1) fun x2 =>
     M.call (pack_Baseline x2.1 x2.2.1 x2.2.2.1) fun x3 =>
     M.call (r24_Baseline x2.1 x2.2.1 x2.2.2.1) fun x4 =>
     M.bif (decide (x3.2 = x4.2))
       (M.call (r24_Same x3.1 x4.1) fun x5 =>
        M.bif x5
          (M.call (pack_Args x2.1 x2.2.1) fun x6 =>
           M.call (r24_Args x2.1 x2.2.1) fun x7 =>
           M.ret (decide (x6 = x7)))
          (M.ret false))
       (M.ret false))
def pack_Padding (p1 : AProgram) (i1 : Int) (l1 : ALayout) : M (Int) :=
  M.bif (decide (l1.Size < 0))
    (M.ret 0)
    (M.bif (decide (1048576 < l1.Size))
       (M.ret 0)
       (M.chk ((0 : Int) ≤ l1.Size ∧ l1.Size < 1000000000000) <|
        M.chk ((0 : Int) ≤ i1 ∧ i1 < (p1.Funcs.length : Int)) <|
        M.loop (fun again1 ((x1, taken1) : Int × List Bool) =>
            M.bif (decide (x1 < (((atD p1.Funcs i1).Slots).length : Int)))
              (M.chk ((0 : Int) ≤ x1 ∧ x1 < (((atD p1.Funcs i1).Slots).length : Int)) <|
               M.chk ((0 : Int) ≤ x1 ∧ x1 < (l1.Off.length : Int)) <|
               M.loop (fun again2 ((b1, taken2) : Int × List Bool) =>
                   M.chk ((0 : Int) ≤ x1 ∧ x1 < (l1.Off.length : Int)) <|
                   M.chk (okI ((atD l1.Off x1) + ((atD ((atD p1.Funcs i1).Slots) x1).Size))) <|
                   M.bif (decide (b1 < ((atD l1.Off x1) + ((atD ((atD p1.Funcs i1).Slots) x1).Size))))
                     (M.chk ((0 : Int) ≤ b1 ∧ b1 < (taken2.length : Int)) <|
                      M.chk (okI (b1 + 1)) <|
                      again2 ((b1 + 1), (setD taken2 b1 true)))
                     (M.chk (okI (x1 + 1)) <|
                      again1 ((x1 + 1), taken2))) ((atD l1.Off x1), taken1))
              (M.loop (fun again3 ((n3, b2) : Int × Int) =>
                   M.bif (decide (b2 < l1.Size))
                     (M.chk ((0 : Int) ≤ b2 ∧ b2 < (taken1.length : Int)) <|
                      M.bif (!(atD taken1 b2))
                        (M.chk (okI (n3 + 1)) <|
                         M.chk (okI (b2 + 1)) <|
                         again3 ((n3 + 1), (b2 + 1)))
                        (M.chk (okI (b2 + 1)) <|
                         again3 (n3, (b2 + 1))))
                     (M.ret n3)) (0, l1.Args))) (0, (repD l1.Size : List Bool))))
def law24_PackCountsPadding (codes1 : List Int) : M (Bool) :=
  M.call (law24_awake) fun x1 =>
  M.bif (!x1)
    (M.ret false)
    (M.call (law24_scene codes1) fun x2 =>
     M.call (pack_Baseline x2.1 x2.2.1 x2.2.2.1) fun x3 =>
     M.call (pack_Padding x2.1 x2.2.1 x3.1) fun x4 =>
     M.chk (okI (x3.1.Args + x4)) <|
     M.chk ((0 : Int) ≤ x2.2.1 ∧ x2.2.1 < (x2.1.Funcs.length : Int)) <|
     M.loop (fun again1 ((sum1, k1) : Int × Int) =>
         M.bif (decide (k1 < (((atD x2.1.Funcs x2.2.1).Slots).length : Int)))
           (M.chk ((0 : Int) ≤ k1 ∧ k1 < (((atD x2.1.Funcs x2.2.1).Slots).length : Int)) <|
            M.chk (okI (sum1 + ((atD ((atD x2.1.Funcs x2.2.1).Slots) k1).Size))) <|
            M.chk (okI (k1 + 1)) <|
            again1 ((sum1 + ((atD ((atD x2.1.Funcs x2.2.1).Slots) k1).Size)), (k1 + 1)))
           (M.bif (decide (x3.2 = 0))
              (M.ret (decide (sum1 = x3.1.Size)))
              (M.ret false))) ((x3.1.Args + x4), 0))
def extent_right (a1 : AInterval) : M (Bool) :=
  M.call (extent_bound a1.Off) fun x1 =>
  M.bif x1
    (M.call (extent_bound a1.Size) fun x2 =>
     M.bif x2
       (M.chk (okI (a1.Off + a1.Size)) <|
        M.ret (decide ((a1.Off + a1.Size) ≤ 2147483647)))
       (M.ret false))
    (M.ret false)
def extent_Inside (a1 : AInterval) (size1 : Int) : M (Bool) :=
  M.call (extent_right a1) fun x1 =>
  M.bif x1
    (M.chk (okI (a1.Off + a1.Size)) <|
     M.ret (decide ((a1.Off + a1.Size) ≤ size1)))
    (M.ret false)
def slices_Clone___int_int_ (s1 : List Int) : M (List Int) :=
  M.both (s1 = [])
    (M.ret ([] : List Int))
    (M.chk (([] : List Int).length + s1.length < 1000000000000) <|
     M.ret (([] : List Int) ++ s1))
def colour_End (s1 : List ASlot) (off1 : List Int) : M (Int) :=
  M.loop (fun again1 ((end1, x1) : Int × Int) =>
      M.bif (decide (x1 < (s1.length : Int)))
        (M.chk ((0 : Int) ≤ x1 ∧ x1 < (off1.length : Int)) <|
         M.chk ((0 : Int) ≤ x1 ∧ x1 < (s1.length : Int)) <|
         M.chk (okI ((atD off1 x1) + ((atD s1 x1).Size))) <|
         M.chk (okI (x1 + 1)) <|
         again1 ((max end1 ((atD off1 x1) + ((atD s1 x1).Size))), (x1 + 1)))
        (M.ret end1)) (0, 0)
def pack_Finish (p1 : AProgram) (i1 : Int) (align1 : Int) (off1 : List Int) : M (ALayout × Int) :=
  M.chk ((0 : Int) ≤ i1 ∧ i1 < (p1.Funcs.length : Int)) <|
  M.bif (!decide ((off1.length : Int) = (((atD p1.Funcs i1).Slots).length : Int)))
    (M.ret ((⟨0, 0, ([] : List Int)⟩ : ALayout), 13))
    (M.loop (fun again1 (x1 : Int) =>
         M.bif (decide (x1 < (((atD p1.Funcs i1).Slots).length : Int)))
           (M.chk ((0 : Int) ≤ x1 ∧ x1 < (((atD p1.Funcs i1).Slots).length : Int)) <|
            M.chk ((0 : Int) ≤ x1 ∧ x1 < (off1.length : Int)) <|
            M.call (extent_Inside (⟨(atD off1 x1), (atD ((atD p1.Funcs i1).Slots) x1).Size⟩ : AInterval) 2147483647) fun x2 =>
            M.bif (!x2)
              (M.ret ((⟨0, 0, ([] : List Int)⟩ : ALayout), 13))
              (M.chk (okI (x1 + 1)) <|
               again1 (x1 + 1)))
           (M.call (pack_Args p1 i1) fun x3 =>
            M.call (slices_Clone___int_int_ off1) fun x4 =>
            M.call (colour_End ((atD p1.Funcs i1).Slots) off1) fun x5 =>
            M.call (pack_sized (⟨x3, 0, x4⟩ : ALayout) (max (max x3 0) x5) align1) fun x6 =>
            M.ret (x6.1, x6.2))) 0)
def r03_Right (a1 : AInterval) : M (Bool) :=
  M.call (r03_Bound a1.Off) fun x1 =>
  M.bif x1
    (M.call (r03_Bound a1.Size) fun x2 =>
     M.bif x2
       (M.chk (okI (a1.Off + a1.Size)) <|
        M.ret (decide ((a1.Off + a1.Size) ≤ 2147483647)))
       (M.ret false))
    (M.ret false)
def r03_Inside (a1 : AInterval) (size1 : Int) : M (Bool) :=
  M.call (r03_Right a1) fun x1 =>
  M.bif x1
    (M.chk (okI (a1.Off + a1.Size)) <|
     M.ret (decide ((a1.Off + a1.Size) ≤ size1)))
    (M.ret false)
def r03_Overlap (a1 : AInterval) (b1 : AInterval) : M (Bool) :=
  M.call (r03_Right a1) fun x1 =>
  M.bif x1
    (M.call (r03_Right b1) fun x2 =>
     M.bif x2
       (M.bif (decide (0 < a1.Size))
          (M.bif (decide (0 < b1.Size))
             (M.chk (okI (b1.Off + b1.Size)) <|
              M.bif (decide (a1.Off < (b1.Off + b1.Size)))
                (M.chk (okI (a1.Off + a1.Size)) <|
                 M.ret (decide (b1.Off < (a1.Off + a1.Size))))
                (M.ret false))
             (M.ret false))
          (M.ret false))
       (M.ret false))
    (M.ret false)
def law24_PackBaselineIsDisjoint (codes1 : List Int) : M (Bool) :=
  M.call (law24_awake) fun x1 =>
  M.bif (!x1)
    (M.ret false)
    (M.call (law24_scene codes1) fun x2 =>
     M.call (pack_Baseline x2.1 x2.2.1 x2.2.2.1) fun x3 =>
     M.call (pack_Finish x2.1 x2.2.1 x2.2.2.1 x3.1.Off) fun x4 =>
     M.chk ((0 : Int) ≤ x2.2.1 ∧ x2.2.1 < (x2.1.Funcs.length : Int)) <|
     M.bif (!decide (x3.2 = 0))
       (M.ret false)
       (M.bif (!decide (x4.2 = 0))
          (M.ret false)
          (M.call (r24_Same x3.1 x4.1) fun x5 =>
           M.bif (!x5)
             (M.ret false)
             (M.bif (!decide ((x3.1.Off.length : Int) = (((atD x2.1.Funcs x2.2.1).Slots).length : Int)))
                (M.ret false)
                (M.chk ((0 : Int) ≤ x3.1.Size ∧ (0 : Int) < x2.2.2.1) <|
                 M.bif (!decide ((x3.1.Size % x2.2.2.1) = 0))
                   (M.ret false)
                   (M.bif (decide (x3.1.Size < x3.1.Args))
                      (M.ret false)
                      (M.loop (fun again1 (k1 : Int) =>
                           M.bif (decide (k1 < (((atD x2.1.Funcs x2.2.1).Slots).length : Int)))
                             (M.chk ((0 : Int) ≤ k1 ∧ k1 < (x3.1.Off.length : Int)) <|
                              M.chk ((0 : Int) ≤ k1 ∧ k1 < (((atD x2.1.Funcs x2.2.1).Slots).length : Int)) <|
                              M.chk ((0 : Int) ≤ k1 ∧ k1 < (x3.1.Off.length : Int)) <|
                              M.chk ((0 : Int) ≤ k1 ∧ k1 < (((atD x2.1.Funcs x2.2.1).Slots).length : Int)) <|
                              M.chk ((0 : Int) ≤ (atD x3.1.Off k1) ∧ (0 : Int) < ((atD ((atD x2.1.Funcs x2.2.1).Slots) k1).Align)) <|
                              M.bif (!decide (((atD x3.1.Off k1) % ((atD ((atD x2.1.Funcs x2.2.1).Slots) k1).Align)) = 0))
                                (M.ret false)
                                (M.chk ((0 : Int) ≤ k1 ∧ k1 < (x3.1.Off.length : Int)) <|
                                 M.bif (decide ((atD x3.1.Off k1) < x3.1.Args))
                                   (M.ret false)
                                   (M.call (r03_Inside (⟨(atD x3.1.Off k1), (atD ((atD x2.1.Funcs x2.2.1).Slots) k1).Size⟩ : AInterval) x3.1.Size) fun x6 =>
                                    M.bif (!x6)
                                      (M.ret false)
                                      (M.loop (fun again2 (j1 : Int) =>
                                           M.bif (decide (j1 < k1))
                                             (M.chk ((0 : Int) ≤ j1 ∧ j1 < (x3.1.Off.length : Int)) <|
                                              M.chk ((0 : Int) ≤ j1 ∧ j1 < (((atD x2.1.Funcs x2.2.1).Slots).length : Int)) <|
                                              M.call (r03_Overlap (⟨(atD x3.1.Off k1), (atD ((atD x2.1.Funcs x2.2.1).Slots) k1).Size⟩ : AInterval) (⟨(atD x3.1.Off j1), (atD ((atD x2.1.Funcs x2.2.1).Slots) j1).Size⟩ : AInterval)) fun x7 =>
                                              M.bif x7
                                                (M.ret false)
                                                (M.chk (okI (j1 + 1)) <|
                                                 again2 (j1 + 1)))
                                             (M.chk (okI (k1 + 1)) <|
                                              again1 (k1 + 1))) 0))))
                             (M.ret true)) 0)))))))
def law24_PackOverflows (extra1 : Int) : M (Bool) :=
  M.call (law24_awake) fun x1 =>
  M.bif (!x1)
    (M.ret false)
    (M.chk (okI extra1) <|
     M.chk ((3 : Int) ≠ 0) <|
     M.chk (okI ((127 : Int) + (Int.tmod extra1 3))) <|
     M.loop (fun again1 ((k1, s1) : Int × List ASlot) =>
         M.bif (decide (k1 < ((127 : Int) + (Int.tmod extra1 3))))
           (M.chk (s1.length + ([(⟨8, 16777216⟩ : ASlot)] : List ASlot).length < 1000000000000) <|
            M.chk (okI (k1 + 1)) <|
            again1 ((k1 + 1), (s1 ++ ([(⟨8, 16777216⟩ : ASlot)] : List ASlot))))
           (M.call (pack_Baseline (⟨([(⟨0, s1, ([(⟨23, 0, 0, 0, 0⟩ : AInstr)] : List AInstr)⟩ : AFunc)] : List AFunc)⟩ : AProgram) 0 16777216) fun x2 =>
            M.call (r24_Baseline (⟨([(⟨0, s1, ([(⟨23, 0, 0, 0, 0⟩ : AInstr)] : List AInstr)⟩ : AFunc)] : List AFunc)⟩ : AProgram) 0 16777216) fun x3 =>
            M.chk ((0 : Int) ≤ ((127 : Int) + (Int.tmod extra1 3)) ∧ ((127 : Int) + (Int.tmod extra1 3)) < 1000000000000) <|
            M.call (pack_Finish (⟨([(⟨0, s1, ([(⟨23, 0, 0, 0, 0⟩ : AInstr)] : List AInstr)⟩ : AFunc)] : List AFunc)⟩ : AProgram) 0 16777216 (repD ((127 : Int) + (Int.tmod extra1 3)) : List Int)) fun x4 =>
            M.bif (decide (x2.2 = x3.2))
              (M.call (r24_Same x2.1 x3.1) fun x5 =>
               M.bif x5
                 (M.bif ((decide (x2.2 = 0)) == (decide (((127 : Int) + (Int.tmod extra1 3)) ≤ 127)))
                    (M.bif (decide (x4.2 = 0))
                       (M.ret (decide (x4.1.Size = 16777216)))
                       (M.ret false))
                    (M.ret false))
                 (M.ret false))
              (M.ret false))) (0, ([] : List ASlot)))
end Go.Proofs.Ytbppgdffochdmaa.Q
