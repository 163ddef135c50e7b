/- The data of the program, and its functions as lifted texts (written by a program). -/
import Derived.Test.YtechhjednmnmpaaMapP
set_option linter.unusedVariables false
namespace Go.Proofs.Ytechhjednmnmpaa.Q
/-- What the package bitset does (known by hand). -/
def in512 (n : Int) : Bool := decide (0 ≤ n ∧ n < 512)
def setOf (l : List Int) : List Int := ((List.range 512).filter fun k : Nat => decide ((k : Int) ∈ l)).map fun k : Nat => (k : Int)
/-- In order, all of them in range. -/
def ascS (l : List Int) : Bool := (List.range l.length).all fun j => in512 (l.getD j 0) && (decide (j = 0) || decide (l.getD (j - 1) 0 < l.getD j 0))
structure DCodes where
  list : List Int
  at_ : Int
  deriving DecidableEq
instance : Inhabited DCodes := ⟨⟨[], 0⟩⟩
structure ASlot where
  Size : Int
  Align : Int
  deriving DecidableEq
instance : Inhabited ASlot := ⟨⟨0, 0⟩⟩
structure AInstr where
  Op : Int
  A : Int
  B : Int
  C : Int
  Imm : Int
  deriving DecidableEq
instance : Inhabited AInstr := ⟨⟨0, 0, 0, 0, 0⟩⟩
structure AFunc where
  Params : Int
  Slots : List ASlot
  Code : List AInstr
  deriving DecidableEq
instance : Inhabited AFunc := ⟨⟨0, [], []⟩⟩
structure AProgram where
  Funcs : List AFunc
  deriving DecidableEq
instance : Inhabited AProgram := ⟨⟨[]⟩⟩
structure ALive where
  Out : List (List Int)
  deriving DecidableEq
instance : Inhabited ALive := ⟨⟨[]⟩⟩
structure Arr2Int where
  e0 : Int
  e1 : Int
  deriving DecidableEq
instance : Inhabited Arr2Int := ⟨⟨0, 0⟩⟩
def coalesce_Members (to1 : List Int) (s1 : Int) : M (List Int) :=
  M.loop (fun again1 ((x1, l1) : Int × List Int) =>
      M.bif (decide (x1 < (to1.length : Int)))
        (M.chk ((0 : Int) ≤ x1 ∧ x1 < (to1.length : Int)) <|
         M.bif (decide ((atD to1 x1) = s1))
           (M.chk (l1.length + ([x1] : List Int).length < 1000000000000) <|
            M.chk (okI (x1 + 1)) <|
            again1 ((x1 + 1), (l1 ++ ([x1] : List Int))))
           (M.chk (okI (x1 + 1)) <|
            again1 ((x1 + 1), l1)))
        (M.ret l1)) (0, ([] : List Int))
def law19_awake  : M (Bool) :=
  M.call (coalesce_Members ([0, 0, 2] : List Int) 0) fun x1 =>
  M.ret (decide ((x1.length : Int) = 2))
def draw_New (list1 : List Int) (limit1 : Int) : M (DCodes) :=
  M.chk ((0 : Int) ≤ 0 ∧ 0 ≤ (min (list1.length : Int) limit1) ∧ (min (list1.length : Int) limit1) ≤ (list1.length : Int)) <|
  M.ret (⟨(sliceD list1 0 (min (list1.length : Int) limit1)), 0⟩ : DCodes)
def draw_Left (c1 : DCodes) : M (Bool × DCodes) :=
  M.ret ((decide (c1.at_ < (c1.list.length : Int))), c1)
def draw_Next (c1 : DCodes) (n1 : Int) : M (Int × DCodes) :=
  M.call (draw_Left c1) fun x1 =>
  M.bif (!x1.1)
    (M.ret (0, x1.2))
    (M.bif (decide (n1 < 1))
       (M.ret (0, x1.2))
       (M.chk ((0 : Int) ≤ x1.2.at_ ∧ x1.2.at_ < (x1.2.list.length : Int)) <|
        M.chk (okI (atD x1.2.list x1.2.at_)) <|
        M.chk (okI (x1.2.at_ + 1)) <|
        M.chk (okI ((atD x1.2.list x1.2.at_) * n1)) <|
        M.chk ((0 : Int) ≤ ((atD x1.2.list x1.2.at_) * n1) ∧ (0 : Int) < 256 ∧ ((atD x1.2.list x1.2.at_) * n1) ≤ 9223372036854775807) <|
        M.ret ((((atD x1.2.list x1.2.at_) * n1) / 256), (⟨x1.2.list, (x1.2.at_ + 1)⟩ : DCodes))))
def draw_Slot (c1 : DCodes) : M (ASlot × DCodes) :=
  M.call (draw_Next c1 7) fun x1 =>
  M.chk ((0 : Int) ≤ x1.1 ∧ x1.1 < (([8, 4, 8, 1, 2, 16, 8] : List Int).length : Int)) <|
  M.call (draw_Next x1.2 8) fun x2 =>
  M.chk ((0 : Int) ≤ x2.1 ∧ x2.1 < (([8, 4, 1, 8, 16, 2, 32, 64] : List Int).length : Int)) <|
  M.ret ((⟨(atD ([8, 4, 8, 1, 2, 16, 8] : List Int) x1.1), (atD ([8, 4, 1, 8, 16, 2, 32, 64] : List Int) x2.1)⟩ : ASlot), x2.2)
def draw_Slots (c1 : DCodes) (most1 : Int) : M (List ASlot × DCodes) :=
  M.chk (okI (most1 + 1)) <|
  M.call (draw_Next c1 (most1 + 1)) fun x1 =>
  M.loop (fun again1 ((n1, c2, l1) : Int × DCodes × List ASlot) =>
      M.bif (decide (0 < n1))
        (M.call (draw_Slot c2) fun x2 =>
         M.chk (l1.length + ([x2.1] : List ASlot).length < 1000000000000) <|
         M.chk (okI (n1 - 1)) <|
         again1 ((n1 - 1), x2.2, (l1 ++ ([x2.1] : List ASlot))))
        (M.ret (l1, c2))) (x1.1, x1.2, ([] : List ASlot))
def draw_like (c1 : DCodes) (f1 : AFunc) (s1 : Int) : M (Int × DCodes) :=
  M.loop (fun again1 ((k1, l1) : Int × List Int) =>
      M.bif (decide (k1 < (f1.Slots.length : Int)))
        (M.chk ((0 : Int) ≤ k1 ∧ k1 < (f1.Slots.length : Int)) <|
         M.chk ((0 : Int) ≤ s1 ∧ s1 < (f1.Slots.length : Int)) <|
         M.bif (decide (((atD f1.Slots k1).Size) = ((atD f1.Slots s1).Size)))
           (M.chk (l1.length + ([k1] : List Int).length < 1000000000000) <|
            M.chk (okI (k1 + 1)) <|
            again1 ((k1 + 1), (l1 ++ ([k1] : List Int))))
           (M.chk (okI (k1 + 1)) <|
            again1 ((k1 + 1), l1)))
        (M.call (draw_Next c1 (l1.length : Int)) fun x1 =>
         M.chk ((0 : Int) ≤ x1.1 ∧ x1.1 < (l1.length : Int)) <|
         M.ret ((atD l1 x1.1), x1.2))) (0, ([] : List Int))
def draw_Word (c1 : DCodes) : M (Int × DCodes) :=
  M.call (draw_Next c1 6) fun x1 =>
  M.bif (decide (x1.1 = 0))
    (M.call (draw_Next x1.2 3) fun x2 =>
     M.chk ((0 : Int) ≤ x2.1 ∧ x2.1 ≤ 18446744073709551615) <|
     M.chk ((0 : Int) ≤ (18446744073709551615 : Int) - x2.1 ∧ (18446744073709551615 : Int) - x2.1 ≤ 18446744073709551615) <|
     M.ret (((18446744073709551615 : Int) - x2.1), x2.2))
    (M.bif (decide (x1.1 = 1))
       (M.call (draw_Next x1.2 64) fun x3 =>
        M.chk ((0 : Int) ≤ x3.1 ∧ x3.1 ≤ 64 ∧ (0 ≤ (1 : Int) * 2 ^ x3.1.toNat ∧ (1 : Int) * 2 ^ x3.1.toNat ≤ 18446744073709551615)) <|
        M.ret (((1 : Int) * 2 ^ x3.1.toNat), x3.2))
       (M.bif (decide (x1.1 = 2))
          (M.ret (0, x1.2))
          (M.call (draw_Next x1.2 256) fun x4 =>
           M.chk ((0 : Int) ≤ x4.1 ∧ x4.1 ≤ 18446744073709551615) <|
           M.ret (x4.1, x4.2))))
def draw_body (c1 : DCodes) (f1 : AFunc) (i1 : Int) (params1 : List Int) : M (List AInstr × DCodes) :=
  M.call (draw_Next c1 4) fun x1 =>
  M.call (draw_Next x1.2 20) fun x2 =>
  M.join (fun (x3 : Bool) =>
      M.bif x3
        (M.call (draw_Next x2.2 (f1.Slots.length : Int)) fun x4 =>
         M.ret (([(⟨16, x4.1, x1.1, 0, 0⟩ : AInstr)] : List AInstr), x4.2))
        (M.join (fun (x5 : Bool) =>
             M.bif x5
               (M.call (draw_Next x2.2 (f1.Slots.length : Int)) fun x6 =>
                M.ret (([(⟨15, x1.1, x6.1, 0, 0⟩ : AInstr)] : List AInstr), x6.2))
               (M.join (fun (x7 : Bool) =>
                    M.bif x7
                      (M.call (draw_Next x2.2 (f1.Slots.length : Int)) fun x8 =>
                       M.call (draw_like x8.2 f1 x8.1) fun x9 =>
                       M.ret (([(⟨17, x9.1, x8.1, 0, 0⟩ : AInstr)] : List AInstr), x9.2))
                      (M.bif (decide (x2.1 < 11))
                         (M.call (draw_Word x2.2) fun x10 =>
                          M.ret (([(⟨0, x1.1, 0, 0, x10.1⟩ : AInstr)] : List AInstr), x10.2))
                         (M.bif (decide (x2.1 < 13))
                            (M.call (draw_Next x2.2 10) fun x11 =>
                             M.chk (okI ((2 : Int) + x11.1)) <|
                             M.call (draw_Next x11.2 4) fun x12 =>
                             M.call (draw_Next x12.2 8) fun x13 =>
                             M.ret (([(⟨((2 : Int) + x11.1), x1.1, x12.1, x13.1, 0⟩ : AInstr)] : List AInstr), x13.2))
                            (M.bif (decide (x2.1 < 15))
                               (M.ret (([(⟨14, x1.1, 0, 0, 0⟩ : AInstr)] : List AInstr), x2.2))
                               (M.bif (decide (x2.1 = 15))
                                  (M.call (draw_Next x2.2 3) fun x14 =>
                                   M.chk ((0 : Int) ≤ x14.1 ∧ x14.1 < (([13, 12, 1] : List Int).length : Int)) <|
                                   M.ret (([(⟨(atD ([13, 12, 1] : List Int) x14.1), x1.1, 0, 0, 0⟩ : AInstr)] : List AInstr), x14.2))
                                  (M.join (fun (x15 : Bool) =>
                                       M.bif x15
                                         (M.call (draw_Next x2.2 f1.Params) fun x16 =>
                                          M.ret (([(⟨19, x1.1, x16.1, 0, 0⟩ : AInstr)] : List AInstr), x16.2))
                                         (M.bif (decide (17 ≤ x2.1))
                                            (M.chk (okI (i1 + 1)) <|
                                             M.bif (decide ((i1 + 1) < (params1.length : Int)))
                                               (M.chk (okI (i1 + 1)) <|
                                                M.chk (okI ((params1.length : Int) - i1)) <|
                                                M.chk (okI (((params1.length : Int) - i1) - 1)) <|
                                                M.call (draw_Next x2.2 (((params1.length : Int) - i1) - 1)) fun x17 =>
                                                M.chk (okI ((i1 + 1) + x17.1)) <|
                                                M.loop (fun again1 ((a1, c2, out1) : Int × DCodes × List AInstr) =>
                                                    M.chk ((0 : Int) ≤ ((i1 + 1) + x17.1) ∧ ((i1 + 1) + x17.1) < (params1.length : Int)) <|
                                                    M.bif (decide (a1 < (atD params1 ((i1 + 1) + x17.1))))
                                                      (M.call (draw_Next c2 8) fun x18 =>
                                                       M.bif (decide (x18.1 < 7))
                                                         (M.call (draw_Next x18.2 4) fun x19 =>
                                                          M.chk (out1.length + ([(⟨18, a1, x19.1, 0, 0⟩ : AInstr)] : List AInstr).length < 1000000000000) <|
                                                          M.chk (okI (a1 + 1)) <|
                                                          again1 ((a1 + 1), x19.2, (out1 ++ ([(⟨18, a1, x19.1, 0, 0⟩ : AInstr)] : List AInstr))))
                                                         (M.chk (okI (a1 + 1)) <|
                                                          again1 ((a1 + 1), x18.2, out1)))
                                                      (M.chk (out1.length + ([(⟨22, ((i1 + 1) + x17.1), 0, 0, 0⟩ : AInstr)] : List AInstr).length < 1000000000000) <|
                                                       M.ret ((out1 ++ ([(⟨22, ((i1 + 1) + x17.1), 0, 0, 0⟩ : AInstr)] : List AInstr)), c2))) (0, x17.2, ([] : List AInstr)))
                                               (M.ret (([(⟨14, x1.1, 0, 0, 0⟩ : AInstr)] : List AInstr), x2.2)))
                                            (M.ret (([(⟨14, x1.1, 0, 0, 0⟩ : AInstr)] : List AInstr), x2.2)))) fun k4 =>
                                   M.bif (decide (x2.1 = 16))
                                     (k4 (decide (0 < f1.Params)))
                                     (k4 false))))))) fun k3 =>
                M.bif (decide (x2.1 < 9))
                  (k3 (decide (0 < (f1.Slots.length : Int))))
                  (k3 false))) fun k2 =>
         M.bif (decide (x2.1 < 6))
           (k2 (decide (0 < (f1.Slots.length : Int))))
           (k2 false))) fun k1 =>
  M.bif (decide (x2.1 < 3))
    (k1 (decide (0 < (f1.Slots.length : Int))))
    (k1 false)
def draw_function (c1 : DCodes) (i1 : Int) (params1 : List Int) (most1 : Int) : M (AFunc × DCodes) :=
  M.chk ((0 : Int) ≤ i1 ∧ i1 < (params1.length : Int)) <|
  M.call (draw_Slots c1 6) fun x1 =>
  M.loop (fun again1 ((s1, c2, code1) : Int × DCodes × List AInstr) =>
      M.bif (decide (s1 < (x1.1.length : Int)))
        (M.call (draw_Next c2 4) fun x2 =>
         M.bif (decide (x2.1 < 3))
           (M.call (draw_Next x2.2 4) fun x3 =>
            M.chk (code1.length + ([(⟨16, s1, x3.1, 0, 0⟩ : AInstr)] : List AInstr).length < 1000000000000) <|
            M.chk (okI (s1 + 1)) <|
            again1 ((s1 + 1), x3.2, (code1 ++ ([(⟨16, s1, x3.1, 0, 0⟩ : AInstr)] : List AInstr))))
           (M.chk (okI (s1 + 1)) <|
            again1 ((s1 + 1), x2.2, code1)))
        (M.chk (okI (most1 + 1)) <|
         M.call (draw_Next c2 (most1 + 1)) fun x4 =>
         M.loop (fun again2 ((n2, c3, code2) : Int × DCodes × List AInstr) =>
             M.bif (decide (0 < n2))
               (M.call (draw_body c3 (⟨(atD params1 i1), x1.1, ([] : List AInstr)⟩ : AFunc) i1 params1) fun x5 =>
                M.chk (code2.length + x5.1.length < 1000000000000) <|
                M.call (draw_Next x5.2 9) fun x6 =>
                M.bif (decide (x6.1 = 7))
                  (M.call (draw_Next x6.2 4) fun x7 =>
                   M.chk ((code2 ++ x5.1).length + ([(⟨21, x7.1, (-1), 0, 0⟩ : AInstr)] : List AInstr).length < 1000000000000) <|
                   M.chk (okI (n2 - 1)) <|
                   again2 ((n2 - 1), x7.2, ((code2 ++ x5.1) ++ ([(⟨21, x7.1, (-1), 0, 0⟩ : AInstr)] : List AInstr))))
                  (M.bif (decide (x6.1 = 8))
                     (M.call (draw_Next x6.2 3) fun x8 =>
                      M.bif (decide (x8.1 = 2))
                        (M.chk ((code2 ++ x5.1).length + ([(⟨20, (-1), 0, 0, 0⟩ : AInstr)] : List AInstr).length < 1000000000000) <|
                         M.chk (okI (n2 - 1)) <|
                         again2 ((n2 - 1), x8.2, ((code2 ++ x5.1) ++ ([(⟨20, (-1), 0, 0, 0⟩ : AInstr)] : List AInstr))))
                        (M.chk (okI (n2 - 1)) <|
                         again2 ((n2 - 1), x8.2, (code2 ++ x5.1))))
                     (M.chk (okI (n2 - 1)) <|
                      again2 ((n2 - 1), x6.2, (code2 ++ x5.1)))))
               (M.join (fun ((c4, Op1, Imm1) : DCodes × Int × Int) =>
                    M.chk (code2.length + ([(⟨Op1, 0, 0, 0, Imm1⟩ : AInstr)] : List AInstr).length < 1000000000000) <|
                    M.loop (fun again3 ((k2, c5, code3) : Int × DCodes × List AInstr) =>
                        M.bif (decide (k2 < (code3.length : Int)))
                          (M.call (draw_Next c5 8) fun x9 =>
                           M.chk (okI (k2 + x9.1)) <|
                           M.chk (okI ((k2 + x9.1) - 2)) <|
                           M.join (fun (to1 : Int) =>
                               M.chk ((0 : Int) ≤ k2 ∧ k2 < (code3.length : Int)) <|
                               M.bif (decide (((atD code3 k2).Op) = 20))
                                 (M.chk ((0 : Int) ≤ k2 ∧ k2 < (code3.length : Int)) <|
                                  M.bif (decide (((atD code3 k2).A) < 0))
                                    (M.chk ((0 : Int) ≤ k2 ∧ k2 < (code3.length : Int)) <|
                                     M.chk (okI (k2 + 1)) <|
                                     again3 ((k2 + 1), x9.2, (setD code3 k2 (⟨(atD code3 k2).Op, to1, (atD code3 k2).B, (atD code3 k2).C, (atD code3 k2).Imm⟩ : AInstr))))
                                    (M.chk ((0 : Int) ≤ k2 ∧ k2 < (code3.length : Int)) <|
                                     M.bif (decide (((atD code3 k2).Op) = 21))
                                       (M.chk ((0 : Int) ≤ k2 ∧ k2 < (code3.length : Int)) <|
                                        M.bif (decide (((atD code3 k2).B) < 0))
                                          (M.chk ((0 : Int) ≤ k2 ∧ k2 < (code3.length : Int)) <|
                                           M.chk (okI (k2 + 1)) <|
                                           again3 ((k2 + 1), x9.2, (setD code3 k2 (⟨(atD code3 k2).Op, (atD code3 k2).A, to1, (atD code3 k2).C, (atD code3 k2).Imm⟩ : AInstr))))
                                          (M.chk (okI (k2 + 1)) <|
                                           again3 ((k2 + 1), x9.2, code3)))
                                       (M.chk (okI (k2 + 1)) <|
                                        again3 ((k2 + 1), x9.2, code3))))
                                 (M.chk ((0 : Int) ≤ k2 ∧ k2 < (code3.length : Int)) <|
                                  M.bif (decide (((atD code3 k2).Op) = 21))
                                    (M.chk ((0 : Int) ≤ k2 ∧ k2 < (code3.length : Int)) <|
                                     M.bif (decide (((atD code3 k2).B) < 0))
                                       (M.chk ((0 : Int) ≤ k2 ∧ k2 < (code3.length : Int)) <|
                                        M.chk (okI (k2 + 1)) <|
                                        again3 ((k2 + 1), x9.2, (setD code3 k2 (⟨(atD code3 k2).Op, (atD code3 k2).A, to1, (atD code3 k2).C, (atD code3 k2).Imm⟩ : AInstr))))
                                       (M.chk (okI (k2 + 1)) <|
                                        again3 ((k2 + 1), x9.2, code3)))
                                    (M.chk (okI (k2 + 1)) <|
                                     again3 ((k2 + 1), x9.2, code3)))) fun k3 =>
                           M.bif (decide (((k2 + x9.1) - 2) < 0))
                             (M.chk (okI ((code3.length : Int) - 1)) <|
                              k3 ((code3.length : Int) - 1))
                             (M.bif (decide ((code3.length : Int) ≤ ((k2 + x9.1) - 2)))
                                (M.chk (okI ((code3.length : Int) - 1)) <|
                                 k3 ((code3.length : Int) - 1))
                                (k3 ((k2 + x9.1) - 2))))
                          (M.ret ((⟨(atD params1 i1), x1.1, code3⟩ : AFunc), c5))) (0, c4, (code2 ++ ([(⟨Op1, 0, 0, 0, Imm1⟩ : AInstr)] : List AInstr)))) fun k1 =>
                M.call (draw_Next c3 12) fun x10 =>
                M.bif (decide (x10.1 = 11))
                  (M.call (draw_Word x10.2) fun x11 =>
                   k1 (x11.2, 24, x11.1))
                  (k1 (x10.2, 23, 0)))) (x4.1, x4.2, code1))) (0, x1.2, ([] : List AInstr))
def draw_Program (c1 : DCodes) (funcs1 : Int) (most1 : Int) : M (AProgram × DCodes) :=
  M.call (draw_Next c1 funcs1) fun x1 =>
  M.loop (fun again1 ((n1, c2, params1) : Int × DCodes × List Int) =>
      M.bif (decide (0 < n1))
        (M.call (draw_Next c2 4) fun x2 =>
         M.chk (params1.length + ([x2.1] : List Int).length < 1000000000000) <|
         M.chk (okI (n1 - 1)) <|
         again1 ((n1 - 1), x2.2, (params1 ++ ([x2.1] : List Int))))
        (M.loop (fun again2 ((params2, i1, c3, Funcs1) : List Int × Int × DCodes × List AFunc) =>
             M.bif (decide (i1 < (params2.length : Int)))
               (M.chk (Funcs1.length < 1000000000000) <|
                M.call (draw_function c3 i1 params2 most1) fun x3 =>
                M.chk (Funcs1.length + ([x3.1] : List AFunc).length < 1000000000000) <|
                M.chk (okI (i1 + 1)) <|
                again2 (params2, (i1 + 1), x3.2, (Funcs1 ++ ([x3.1] : List AFunc))))
               (M.ret ((⟨Funcs1⟩ : AProgram), c3))) (params1, 0, c2, ([] : List AFunc)))) (x1.1, x1.2, ([0] : List Int))
def r13_Next (f1 : AFunc) (k1 : Int) : M (List Int) :=
  M.bif (decide (k1 < 0))
    (M.ret ([] : List Int))
    (M.bif (decide ((f1.Code.length : Int) ≤ k1))
       (M.ret ([] : List Int))
       (M.chk ((0 : Int) ≤ k1 ∧ k1 < (f1.Code.length : Int)) <|
        M.bif (decide (((atD f1.Code k1).Op) = 20))
          (M.ret ([(atD f1.Code k1).A] : List Int))
          (M.join (fun (x1 : Bool) =>
               M.bif x1
                 (M.ret ([] : List Int))
                 (M.bif (decide (((atD f1.Code k1).Op) = 21))
                    (M.chk (okI (k1 + 1)) <|
                     M.bif (decide (((atD f1.Code k1).B) < (k1 + 1)))
                       (M.chk (okI (k1 + 1)) <|
                        M.ret ([(atD f1.Code k1).B, (k1 + 1)] : List Int))
                       (M.chk (okI (k1 + 1)) <|
                        M.bif (decide ((k1 + 1) < ((atD f1.Code k1).B)))
                          (M.chk (okI (k1 + 1)) <|
                           M.ret ([(k1 + 1), (atD f1.Code k1).B] : List Int))
                          (M.chk (okI (k1 + 1)) <|
                           M.ret ([(k1 + 1)] : List Int))))
                    (M.chk (okI (k1 + 1)) <|
                     M.ret ([(k1 + 1)] : List Int)))) fun k2 =>
           M.bif (decide (((atD f1.Code k1).Op) = 23))
             (k2 (decide (((atD f1.Code k1).Op) = 23)))
             (k2 (decide (((atD f1.Code k1).Op) = 24))))))
def r15_Removable (x1 : AInstr) : M (Bool) :=
  M.bif (decide (x1.Op = 16))
    (M.ret true)
    (M.ret (decide (x1.Op = 17)))
def r15_Defines (x1 : AInstr) : M (Int × Bool) :=
  M.call (r15_Removable x1) fun x2 =>
  M.bif x2
    (M.ret (x1.A, true))
    (M.ret (0, false))
def r04_Remove (s1 : List Int) (n1 : Int) : M (List Int) :=
  M.loop (fun again1 ((i1, out1) : Int × List Int) =>
      M.bif (decide (i1 < (s1.length : Int)))
        (M.chk ((0 : Int) ≤ i1 ∧ i1 < (s1.length : Int)) <|
         M.bif (!decide ((atD s1 i1) = n1))
           (M.chk ((0 : Int) ≤ i1 ∧ i1 < (s1.length : Int)) <|
            M.chk (out1.length + ([(atD s1 i1)] : List Int).length < 1000000000000) <|
            M.chk (okI (i1 + 1)) <|
            again1 ((i1 + 1), (out1 ++ ([(atD s1 i1)] : List Int))))
           (M.chk (okI (i1 + 1)) <|
            again1 ((i1 + 1), out1)))
        (M.ret out1)) (0, ([] : List Int))
def r15_Uses (x1 : AInstr) : M (List Int) :=
  M.bif (decide (x1.Op = 15))
    (M.ret ([x1.B] : List Int))
    (M.bif (decide (x1.Op = 17))
       (M.ret ([x1.B] : List Int))
       (M.ret ([] : List Int)))
def r04_good (n1 : Int) : M (Bool) :=
  M.bif (decide (0 ≤ n1))
    (M.ret (decide (n1 < 512)))
    (M.ret false)
def r04_Add (s1 : List Int) (n1 : Int) : M (List Int) :=
  M.call (r04_good n1) fun x1 =>
  M.loop (fun again1 ((done1, i1, out1) : Bool × Int × List Int) =>
      M.bif (decide (i1 < (s1.length : Int)))
        (M.join (fun ((done2, out2) : Bool × List Int) =>
             M.chk ((0 : Int) ≤ i1 ∧ i1 < (s1.length : Int)) <|
             M.chk (out2.length + ([(atD s1 i1)] : List Int).length < 1000000000000) <|
             M.chk (okI (i1 + 1)) <|
             again1 (done2, (i1 + 1), (out2 ++ ([(atD s1 i1)] : List Int)))) fun k1 =>
         M.bif (!done1)
           (M.chk ((0 : Int) ≤ i1 ∧ i1 < (s1.length : Int)) <|
            M.bif (decide (n1 ≤ (atD s1 i1)))
              (M.chk ((0 : Int) ≤ i1 ∧ i1 < (s1.length : Int)) <|
               M.bif (decide (n1 < (atD s1 i1)))
                 (M.chk (out1.length + ([n1] : List Int).length < 1000000000000) <|
                  k1 (true, (out1 ++ ([n1] : List Int))))
                 (k1 (true, out1)))
              (k1 (done1, out1)))
           (k1 (done1, out1)))
        (M.bif (!done1)
           (M.chk (out1.length + ([n1] : List Int).length < 1000000000000) <|
            M.ret (out1 ++ ([n1] : List Int)))
           (M.ret out1))) ((!x1), 0, ([] : List Int))
def r04_Union (a1 : List Int) (b1 : List Int) : M (List Int) :=
  M.chk (a1.length < 1000000000000) <|
  M.loop (fun again1 ((out1, i1) : List Int × Int) =>
      M.bif (decide (i1 < (b1.length : Int)))
        (M.chk ((0 : Int) ≤ i1 ∧ i1 < (b1.length : Int)) <|
         M.call (r04_Add out1 (atD b1 i1)) fun x1 =>
         M.chk (okI (i1 + 1)) <|
         again1 (x1, (i1 + 1)))
        (M.ret out1)) (a1, 0)
def r15_In (x1 : AInstr) (out1 : List Int) : M (List Int) :=
  M.join (fun (out2 : List Int) =>
      M.call (r15_Uses x1) fun x2 =>
      M.call (r04_Union out2 x2) fun x3 =>
      M.ret x3) fun k1 =>
  M.call (r15_Defines x1) fun x4 =>
  M.bif x4.2
    (M.call (r04_Remove out1 x4.1) fun x5 =>
     k1 x5)
    (k1 out1)
def r16_Step (f1 : AFunc) (l1 : ALive) : M (ALive) :=
  M.chk ((0 : Int) ≤ (f1.Code.length : Int) ∧ (f1.Code.length : Int) < 1000000000000) <|
  M.loop (fun again1 ((k1, own1) : Int × List (List Int)) =>
      M.bif (decide (k1 < (f1.Code.length : Int)))
        (M.call (r13_Next f1 k1) fun x1 =>
         M.loop (fun again2 ((i1, own2) : Int × List (List Int)) =>
             M.bif (decide (i1 < (x1.length : Int)))
               (M.chk ((0 : Int) ≤ i1 ∧ i1 < (x1.length : Int)) <|
                M.chk ((0 : Int) ≤ k1 ∧ k1 < (own2.length : Int)) <|
                M.chk ((0 : Int) ≤ (atD x1 i1) ∧ (atD x1 i1) < (f1.Code.length : Int)) <|
                M.chk ((0 : Int) ≤ (atD x1 i1) ∧ (atD x1 i1) < (l1.Out.length : Int)) <|
                M.call (r15_In (atD f1.Code (atD x1 i1)) (atD l1.Out (atD x1 i1))) fun x2 =>
                M.call (r04_Union (atD own2 k1) x2) fun x3 =>
                M.chk ((0 : Int) ≤ k1 ∧ k1 < (own2.length : Int)) <|
                M.chk (okI (i1 + 1)) <|
                again2 ((i1 + 1), (setD own2 k1 x3)))
               (M.chk (okI (k1 + 1)) <|
                again1 ((k1 + 1), own2))) (0, own1))
        (M.ret (⟨own1⟩ : ALive))) (0, (repD (f1.Code.length : Int) : List (List Int)))
def r04_Same (a1 : List Int) (b1 : List Int) : M (Bool) :=
  M.bif (!decide ((a1.length : Int) = (b1.length : Int)))
    (M.ret false)
    (M.loop (fun again1 (i1 : Int) =>
         M.bif (decide (i1 < (a1.length : Int)))
           (M.chk ((0 : Int) ≤ i1 ∧ i1 < (a1.length : Int)) <|
            M.chk ((0 : Int) ≤ i1 ∧ i1 < (b1.length : Int)) <|
            M.bif (!decide ((atD a1 i1) = (atD b1 i1)))
              (M.ret false)
              (M.chk (okI (i1 + 1)) <|
               again1 (i1 + 1)))
           (M.ret true)) 0)
def r04_SameAll (a1 : List (List Int)) (b1 : List (List Int)) : M (Bool) :=
  M.bif (!decide ((a1.length : Int) = (b1.length : Int)))
    (M.ret false)
    (M.loop (fun again1 (i1 : Int) =>
         M.bif (decide (i1 < (a1.length : Int)))
           (M.chk ((0 : Int) ≤ i1 ∧ i1 < (a1.length : Int)) <|
            M.chk ((0 : Int) ≤ i1 ∧ i1 < (b1.length : Int)) <|
            M.call (r04_Same (atD a1 i1) (atD b1 i1)) fun x1 =>
            M.bif (!x1)
              (M.ret false)
              (M.chk (okI (i1 + 1)) <|
               again1 (i1 + 1)))
           (M.ret true)) 0)
def r16_Same (a1 : ALive) (b1 : ALive) : M (Bool) :=
  M.call (r04_SameAll a1.Out b1.Out) fun x1 =>
  M.ret x1
def r16_Solve (f1 : AFunc) : M (ALive) :=
  M.chk ((0 : Int) ≤ (f1.Code.length : Int) ∧ (f1.Code.length : Int) < 1000000000000) <|
  M.loop (fun again1 (Out1 : List (List Int)) =>
      M.call (r16_Step f1 (⟨Out1⟩ : ALive)) fun x1 =>
      M.call (r16_Same x1 (⟨Out1⟩ : ALive)) fun x2 =>
      M.bif x2
        (M.ret (⟨Out1⟩ : ALive))
        (again1 x1.Out)) (repD (f1.Code.length : Int) : List (List Int))
def draw_Lives (c1 : DCodes) (f1 : AFunc) : M (ALive × DCodes) :=
  M.call (r16_Solve f1) fun x1 =>
  M.chk (x1.Out.length < 1000000000000) <|
  M.call (draw_Next c1 3) fun x2 =>
  M.loop (fun again1 ((n1, c2, own1) : Int × DCodes × List (List Int)) =>
      M.bif (decide (0 < n1))
        (M.bif (decide (0 < (f1.Slots.length : Int)))
           (M.call (draw_Next c2 (f1.Slots.length : Int)) fun x3 =>
            M.loop (fun again2 ((k1, own2) : Int × List (List Int)) =>
                M.bif (decide (k1 < (own2.length : Int)))
                  (M.chk ((0 : Int) ≤ k1 ∧ k1 < (own2.length : Int)) <|
                   M.call (r04_Add (atD own2 k1) x3.1) fun x4 =>
                   M.chk ((0 : Int) ≤ k1 ∧ k1 < (own2.length : Int)) <|
                   M.chk (okI (k1 + 1)) <|
                   again2 ((k1 + 1), (setD own2 k1 x4)))
                  (M.chk (okI (n1 - 1)) <|
                   again1 ((n1 - 1), x3.2, own2))) (0, own1))
           (M.ret ((⟨own1⟩ : ALive), c2)))
        (M.ret ((⟨own1⟩ : ALive), c2))) (x2.1, x2.2, x1.Out)
def r04_Check (s1 : List Int) : M (Bool) :=
  M.loop (fun again1 (i1 : Int) =>
      M.bif (decide (i1 < (s1.length : Int)))
        (M.chk ((0 : Int) ≤ i1 ∧ i1 < (s1.length : Int)) <|
         M.call (r04_good (atD s1 i1)) fun x1 =>
         M.bif (!x1)
           (M.ret false)
           (M.bif (decide (0 < i1))
              (M.chk ((0 : Int) ≤ i1 ∧ i1 < (s1.length : Int)) <|
               M.chk (okI (i1 - 1)) <|
               M.chk ((0 : Int) ≤ (i1 - 1) ∧ (i1 - 1) < (s1.length : Int)) <|
               M.bif (decide ((atD s1 i1) ≤ (atD s1 (i1 - 1))))
                 (M.ret false)
                 (M.chk (okI (i1 + 1)) <|
                  again1 (i1 + 1)))
              (M.chk (okI (i1 + 1)) <|
               again1 (i1 + 1))))
        (M.ret true)) 0
def r17_shape (f1 : AFunc) (l1 : ALive) : M (Bool) :=
  M.bif (!decide ((l1.Out.length : Int) = (f1.Code.length : Int)))
    (M.ret false)
    (M.loop (fun again1 (k1 : Int) =>
         M.bif (decide (k1 < (l1.Out.length : Int)))
           (M.chk ((0 : Int) ≤ k1 ∧ k1 < (l1.Out.length : Int)) <|
            M.call (r04_Check (atD l1.Out k1)) fun x1 =>
            M.bif (!x1)
              (M.ret false)
              (M.chk ((0 : Int) ≤ k1 ∧ k1 < (l1.Out.length : Int)) <|
               M.bif (decide (0 < ((atD l1.Out k1).length : Int)))
                 (M.chk ((0 : Int) ≤ k1 ∧ k1 < (l1.Out.length : Int)) <|
                  M.chk (okI (((atD l1.Out k1).length : Int) - 1)) <|
                  M.chk ((0 : Int) ≤ (((atD l1.Out k1).length : Int) - 1) ∧ (((atD l1.Out k1).length : Int) - 1) < ((atD l1.Out k1).length : Int)) <|
                  M.bif (decide ((f1.Slots.length : Int) ≤ (atD (atD l1.Out k1) (((atD l1.Out k1).length : Int) - 1))))
                    (M.ret false)
                    (M.chk (okI (k1 + 1)) <|
                     again1 (k1 + 1)))
                 (M.chk (okI (k1 + 1)) <|
                  again1 (k1 + 1))))
           (M.ret true)) 0)
def r04_Has (s1 : List Int) (n1 : Int) : M (Bool) :=
  M.loop (fun again1 (i1 : Int) =>
      M.bif (decide (i1 < (s1.length : Int)))
        (M.chk ((0 : Int) ≤ i1 ∧ i1 < (s1.length : Int)) <|
         M.bif (decide ((atD s1 i1) = n1))
           (M.ret true)
           (M.chk (okI (i1 + 1)) <|
            again1 (i1 + 1)))
        (M.ret false)) 0
def r04_Minus (a1 : List Int) (b1 : List Int) : M (List Int) :=
  M.loop (fun again1 ((i1, out1) : Int × List Int) =>
      M.bif (decide (i1 < (a1.length : Int)))
        (M.chk ((0 : Int) ≤ i1 ∧ i1 < (a1.length : Int)) <|
         M.call (r04_Has b1 (atD a1 i1)) fun x1 =>
         M.bif (!x1)
           (M.chk ((0 : Int) ≤ i1 ∧ i1 < (a1.length : Int)) <|
            M.chk (out1.length + ([(atD a1 i1)] : List Int).length < 1000000000000) <|
            M.chk (okI (i1 + 1)) <|
            again1 ((i1 + 1), (out1 ++ ([(atD a1 i1)] : List Int))))
           (M.chk (okI (i1 + 1)) <|
            again1 ((i1 + 1), out1)))
        (M.ret out1)) (0, ([] : List Int))
def r17_missing (f1 : AFunc) (l1 : ALive) (k1 : Int) : M (List Int) :=
  M.call (r13_Next f1 k1) fun x1 =>
  M.loop (fun again1 ((out1, i1) : List Int × Int) =>
      M.bif (decide (i1 < (x1.length : Int)))
        (M.chk ((0 : Int) ≤ i1 ∧ i1 < (x1.length : Int)) <|
         M.chk ((0 : Int) ≤ (atD x1 i1) ∧ (atD x1 i1) < (f1.Code.length : Int)) <|
         M.chk ((0 : Int) ≤ (atD x1 i1) ∧ (atD x1 i1) < (l1.Out.length : Int)) <|
         M.call (r15_In (atD f1.Code (atD x1 i1)) (atD l1.Out (atD x1 i1))) fun x2 =>
         M.chk ((0 : Int) ≤ k1 ∧ k1 < (l1.Out.length : Int)) <|
         M.call (r04_Minus x2 (atD l1.Out k1)) fun x3 =>
         M.call (r04_Union out1 x3) fun x4 =>
         M.chk (okI (i1 + 1)) <|
         again1 (x4, (i1 + 1)))
        (M.ret out1)) (([] : List Int), 0)
def r17_First (f1 : AFunc) (l1 : ALive) : M (Int × Int × Bool) :=
  M.call (r17_shape f1 l1) fun x1 =>
  M.bif (!x1)
    (M.ret (0, 0, false))
    (M.loop (fun again1 (k1 : Int) =>
         M.bif (decide (k1 < (f1.Code.length : Int)))
           (M.call (r17_missing f1 l1 k1) fun x2 =>
            M.bif (decide (0 < (x2.length : Int)))
              (M.chk ((0 : Int) ≤ 0 ∧ 0 < (x2.length : Int)) <|
               M.ret (k1, (atD x2 0), true))
              (M.chk (okI (k1 + 1)) <|
               again1 (k1 + 1)))
           (M.ret (0, 0, false))) 0)
def r17_Check (f1 : AFunc) (l1 : ALive) : M (Int) :=
  M.call (r17_First f1 l1) fun x1 =>
  M.bif x1.2.2
    (M.ret 11)
    (M.call (r17_shape f1 l1) fun x2 =>
     M.bif (!x2)
       (M.ret 11)
       (M.ret 0))
def r18_graph (f1 : AFunc) (l1 : ALive) (strict1 : Bool) : M (List (List Int) × Int) :=
  M.call (r17_Check f1 l1) fun x1 =>
  M.bif (!decide (x1 = 0))
    (M.ret (([] : List (List Int)), x1))
    (M.chk ((0 : Int) ≤ (f1.Slots.length : Int) ∧ (f1.Slots.length : Int) < 1000000000000) <|
     M.loop (fun again1 ((k1, out1) : Int × List (List Int)) =>
         M.bif (decide (k1 < (f1.Code.length : Int)))
           (M.chk ((0 : Int) ≤ k1 ∧ k1 < (f1.Code.length : Int)) <|
            M.call (r15_Defines (atD f1.Code k1)) fun x2 =>
            M.join (fun (_ : Unit) =>
                M.loop (fun again2 ((i1, out2) : Int × List (List Int)) =>
                    M.chk ((0 : Int) ≤ k1 ∧ k1 < (l1.Out.length : Int)) <|
                    M.bif (decide (i1 < ((atD l1.Out k1).length : Int)))
                      (M.bif x2.2
                         (M.chk ((0 : Int) ≤ k1 ∧ k1 < (l1.Out.length : Int)) <|
                          M.chk ((0 : Int) ≤ i1 ∧ i1 < ((atD l1.Out k1).length : Int)) <|
                          M.join (fun ((x3, x4, x5) : Bool × Bool × Bool) =>
                              M.chk ((0 : Int) ≤ x2.1 ∧ x2.1 < (out2.length : Int)) <|
                              M.call (r04_Add (atD out2 x2.1) (atD (atD l1.Out k1) i1)) fun x6 =>
                              M.chk ((0 : Int) ≤ (atD (atD l1.Out k1) i1) ∧ (atD (atD l1.Out k1) i1) < (out2.length : Int)) <|
                              M.call (r04_Add (atD out2 (atD (atD l1.Out k1) i1)) x2.1) fun x7 =>
                              M.chk ((0 : Int) ≤ x2.1 ∧ x2.1 < (out2.length : Int)) <|
                              M.chk ((0 : Int) ≤ (atD (atD l1.Out k1) i1) ∧ (atD (atD l1.Out k1) i1) < ((setD out2 x2.1 x6).length : Int)) <|
                              M.chk (okI (i1 + 1)) <|
                              again2 ((i1 + 1), (setD (setD out2 x2.1 x6) (atD (atD l1.Out k1) i1) x7))) fun k3 =>
                          M.bif (decide ((atD (atD l1.Out k1) i1) = x2.1))
                            (M.chk (okI (i1 + 1)) <|
                             again2 ((i1 + 1), out2))
                            (M.bif (!strict1)
                               (M.bif (decide (((atD f1.Code k1).Op) = 17))
                                  (M.bif (decide (((atD f1.Code k1).B) = (atD (atD l1.Out k1) i1)))
                                     (M.chk (okI (i1 + 1)) <|
                                      again2 ((i1 + 1), out2))
                                     (k3 ((decide (((atD f1.Code k1).Op) = 17)), (decide (((atD f1.Code k1).Op) = 17)), (decide (((atD f1.Code k1).B) = (atD (atD l1.Out k1) i1))))))
                                  (k3 ((decide (((atD f1.Code k1).Op) = 17)), (decide (((atD f1.Code k1).Op) = 17)), false)))
                               (k3 (false, false, false))))
                         (M.chk (okI (k1 + 1)) <|
                          again1 ((k1 + 1), out2)))
                      (M.chk (okI (k1 + 1)) <|
                       again1 ((k1 + 1), out2))) (0, out1)) fun k2 =>
            M.bif (decide (((atD f1.Code k1).Op) = 17))
              (M.bif (decide (((atD f1.Code k1).A) = ((atD f1.Code k1).B)))
                 (M.chk (okI (k1 + 1)) <|
                  again1 ((k1 + 1), out1))
                 (k2 ()))
              (k2 ()))
           (M.ret (out1, 0))) (0, (repD (f1.Slots.length : Int) : List (List Int))))
def r18_Graph (f1 : AFunc) (l1 : ALive) : M (List (List Int) × Int) :=
  M.call (r18_graph f1 l1 false) fun x1 =>
  M.ret (x1.1, x1.2)
def law19_scene (codes1 : List Int) : M (AProgram × Int × List (List Int) × DCodes) :=
  M.call (draw_New codes1 250) fun x1 =>
  M.call (draw_Program x1 3 16) fun x2 =>
  M.call (draw_Next x2.2 (x2.1.Funcs.length : Int)) fun x3 =>
  M.chk ((0 : Int) ≤ x3.1 ∧ x3.1 < (x2.1.Funcs.length : Int)) <|
  M.chk ((0 : Int) ≤ x3.1 ∧ x3.1 < (x2.1.Funcs.length : Int)) <|
  M.call (draw_Lives x3.2 (atD x2.1.Funcs x3.1)) fun x4 =>
  M.call (r18_Graph (atD x2.1.Funcs x3.1) x4.1) fun x5 =>
  M.ret (x2.1, x3.1, x5.1, x4.2)
def coalesce_singles (n1 : Int) : M (List Int) :=
  M.chk ((0 : Int) ≤ n1 ∧ n1 < 1000000000000) <|
  M.loop (fun again1 ((x1, u1) : Int × List Int) =>
      M.bif (decide (x1 < ((repD n1 : List Int).length : Int)))
        (M.chk ((0 : Int) ≤ x1 ∧ x1 < (u1.length : Int)) <|
         M.chk (okI (x1 + 1)) <|
         again1 ((x1 + 1), (setD u1 x1 x1)))
        (M.ret u1)) (0, (repD n1 : List Int))
def slices_Index____2_int__2_int_ (s1 : List Arr2Int) (v1 : Arr2Int) : M (Int) :=
  M.loop (fun again1 (x1 : Int) =>
      M.bif (decide (x1 < (s1.length : Int)))
        (M.chk ((0 : Int) ≤ x1 ∧ x1 < (s1.length : Int)) <|
         M.bif (decide (v1 = (atD s1 x1)))
           (M.ret x1)
           (M.chk (okI (x1 + 1)) <|
            again1 (x1 + 1)))
        (M.ret (-1))) 0
def slices_Contains____2_int__2_int_ (s1 : List Arr2Int) (v1 : Arr2Int) : M (Bool) :=
  M.call (slices_Index____2_int__2_int_ s1 v1) fun x1 =>
  M.ret (decide (0 ≤ x1))
def interfere_Moves (f1 : AFunc) : M (List Arr2Int) :=
  M.loop (fun again1 ((x1, l1) : Int × List Arr2Int) =>
      M.bif (decide (x1 < (f1.Code.length : Int)))
        (M.chk ((0 : Int) ≤ x1 ∧ x1 < (f1.Code.length : Int)) <|
         M.bif (decide (((atD f1.Code x1).Op) = 17))
           (M.bif (!decide (((atD f1.Code x1).A) = ((atD f1.Code x1).B)))
              (M.call (slices_Contains____2_int__2_int_ l1 (⟨(atD f1.Code x1).A, (atD f1.Code x1).B⟩ : Arr2Int)) fun x2 =>
               M.bif (!x2)
                 (M.chk (l1.length + ([(⟨(atD f1.Code x1).A, (atD f1.Code x1).B⟩ : Arr2Int)] : List Arr2Int).length < 1000000000000) <|
                  M.chk (okI (x1 + 1)) <|
                  again1 ((x1 + 1), (l1 ++ ([(⟨(atD f1.Code x1).A, (atD f1.Code x1).B⟩ : Arr2Int)] : List Arr2Int))))
                 (M.chk (okI (x1 + 1)) <|
                  again1 ((x1 + 1), l1)))
              (M.chk (okI (x1 + 1)) <|
               again1 ((x1 + 1), l1)))
           (M.chk (okI (x1 + 1)) <|
            again1 ((x1 + 1), l1)))
        (M.ret l1)) (0, ([] : List Arr2Int))
def coalesce_forest_find (u1 : List Int) (s1 : Int) : M (Int × List Int) :=
  M.loop (fun again1 ((s2, u2) : Int × List Int) =>
      M.chk ((0 : Int) ≤ s2 ∧ s2 < (u2.length : Int)) <|
      M.bif (!decide ((atD u2 s2) = s2))
        (M.chk ((0 : Int) ≤ s2 ∧ s2 < (u2.length : Int)) <|
         M.chk ((0 : Int) ≤ (atD u2 s2) ∧ (atD u2 s2) < (u2.length : Int)) <|
         M.chk ((0 : Int) ≤ s2 ∧ s2 < (u2.length : Int)) <|
         M.chk ((0 : Int) ≤ s2 ∧ s2 < ((setD u2 s2 (atD u2 (atD u2 s2))).length : Int)) <|
         again1 ((atD (setD u2 s2 (atD u2 (atD u2 s2))) s2), (setD u2 s2 (atD u2 (atD u2 s2)))))
        (M.ret (s2, u2))) (s1, u1)
def coalesce_forest_members (u1 : List Int) (root1 : Int) : M (List Int × List Int) :=
  M.loop (fun again1 ((x1, u2, l1) : Int × List Int × List Int) =>
      M.bif (decide (x1 < (u1.length : Int)))
        (M.call (coalesce_forest_find u2 x1) fun x2 =>
         M.bif (decide (x2.1 = root1))
           (M.chk (l1.length + ([x1] : List Int).length < 1000000000000) <|
            M.chk (okI (x1 + 1)) <|
            again1 ((x1 + 1), x2.2, (l1 ++ ([x1] : List Int))))
           (M.chk (okI (x1 + 1)) <|
            again1 ((x1 + 1), x2.2, l1)))
        (M.ret (l1, u2))) (0, u1, ([] : List Int))
def coalesce_forest__apart_1 (t1 : Int) (c1 : List (Int × Bool)) : M (Bool × List (Int × Bool)) :=
  M.ret ((getM c1 t1 false), c1)
def slices_IndexFunc___int_int__of_coalesce_forest__apart_1 (s1 : List Int) (f1 : List (Int × Bool)) : M (Int × List (Int × Bool)) :=
  M.loop (fun again1 ((x1, f2) : Int × List (Int × Bool)) =>
      M.bif (decide (x1 < (s1.length : Int)))
        (M.chk ((0 : Int) ≤ x1 ∧ x1 < (s1.length : Int)) <|
         M.call (coalesce_forest__apart_1 (atD s1 x1) f2) fun x2 =>
         M.bif x2.1
           (M.ret (x1, x2.2))
           (M.chk (okI (x1 + 1)) <|
            again1 ((x1 + 1), x2.2)))
        (M.ret ((-1), f2))) (0, f1)
def slices_ContainsFunc___int_int__of_coalesce_forest__apart_1 (s1 : List Int) (f1 : List (Int × Bool)) : M (Bool × List (Int × Bool)) :=
  M.call (slices_IndexFunc___int_int__of_coalesce_forest__apart_1 s1 f1) fun x1 =>
  M.ret ((decide (0 ≤ x1.1)), x1.2)
def coalesce_forest_apart (u1 : List Int) (g1 : List (List Int)) (a1 : Int) (b1 : Int) : M (Bool × List Int) :=
  M.call (coalesce_forest_members u1 b1) fun x1 =>
  M.loop (fun again1 ((x2, m1) : Int × List (Int × Bool)) =>
      M.bif (decide (x2 < (x1.1.length : Int)))
        (M.chk ((0 : Int) ≤ x2 ∧ x2 < (x1.1.length : Int)) <|
         M.chk (okI (x2 + 1)) <|
         again1 ((x2 + 1), (putM m1 (atD x1.1 x2) true)))
        (M.call (coalesce_forest_members x1.2 a1) fun x3 =>
         M.loop (fun again2 ((x4, other1) : Int × List (Int × Bool)) =>
             M.bif (decide (x4 < (x3.1.length : Int)))
               (M.chk ((0 : Int) ≤ x4 ∧ x4 < (x3.1.length : Int)) <|
                M.chk ((0 : Int) ≤ (atD x3.1 x4) ∧ (atD x3.1 x4) < (g1.length : Int)) <|
                M.call (slices_ContainsFunc___int_int__of_coalesce_forest__apart_1 (atD g1 (atD x3.1 x4)) other1) fun x5 =>
                M.bif x5.1
                  (M.ret (false, x3.2))
                  (M.chk (okI (x4 + 1)) <|
                   again2 ((x4 + 1), x5.2)))
               (M.ret (true, x3.2))) (0, m1))) (0, ([] : List (Int × Bool)))
def coalesce_forest_join (u1 : List Int) (a1 : Int) (b1 : Int) : M (List Int) :=
  M.call (coalesce_forest_find u1 a1) fun x1 =>
  M.call (coalesce_forest_find x1.2 b1) fun x2 =>
  M.chk ((0 : Int) ≤ (max x1.1 x2.1) ∧ (max x1.1 x2.1) < (x2.2.length : Int)) <|
  M.ret (setD x2.2 (max x1.1 x2.1) (min x1.1 x2.1))
def coalesce_Classes (f1 : AFunc) (g1 : List (List Int)) : M (List Int) :=
  M.call (coalesce_singles (f1.Slots.length : Int)) fun x1 =>
  M.call (interfere_Moves f1) fun x2 =>
  M.loop (fun again1 ((x3, u1) : Int × List Int) =>
      M.bif (decide (x3 < (x2.length : Int)))
        (M.chk ((0 : Int) ≤ x3 ∧ x3 < (x2.length : Int)) <|
         M.call (coalesce_forest_find u1 ((atD x2 x3).e0)) fun x4 =>
         M.call (coalesce_forest_find x4.2 ((atD x2 x3).e1)) fun x5 =>
         M.bif (!decide (x4.1 = x5.1))
           (M.call (coalesce_forest_apart x5.2 g1 x4.1 x5.1) fun x6 =>
            M.bif x6.1
              (M.call (coalesce_forest_join x6.2 x4.1 x5.1) fun x7 =>
               M.chk (okI (x3 + 1)) <|
               again1 ((x3 + 1), x7))
              (M.chk (okI (x3 + 1)) <|
               again1 ((x3 + 1), x6.2)))
           (M.chk (okI (x3 + 1)) <|
            again1 ((x3 + 1), x5.2)))
        (M.loop (fun again2 ((x8, u2, to1) : Int × List Int × List Int) =>
             M.bif (decide (x8 < (u1.length : Int)))
               (M.call (coalesce_forest_find u2 x8) fun x9 =>
                M.chk (to1.length + ([x9.1] : List Int).length < 1000000000000) <|
                M.chk (okI (x8 + 1)) <|
                again2 ((x8 + 1), x9.2, (to1 ++ ([x9.1] : List Int))))
               (M.ret to1)) (0, u1, ([] : List Int)))) (0, x1)
def r18_Moves (f1 : AFunc) : M (List Arr2Int) :=
  M.loop (fun again1 ((k1, out1) : Int × List Arr2Int) =>
      M.bif (decide (k1 < (f1.Code.length : Int)))
        (M.chk ((0 : Int) ≤ k1 ∧ k1 < (f1.Code.length : Int)) <|
         M.join (fun (old1 : Bool) =>
             M.loop (fun again2 ((old2, i1) : Bool × Int) =>
                 M.bif (decide (i1 < (out1.length : Int)))
                   (M.bif old2
                      (M.chk (okI (i1 + 1)) <|
                       again2 (true, (i1 + 1)))
                      (M.chk ((0 : Int) ≤ i1 ∧ i1 < (out1.length : Int)) <|
                       M.chk (okI (i1 + 1)) <|
                       again2 ((decide ((atD out1 i1) = (⟨(atD f1.Code k1).A, (atD f1.Code k1).B⟩ : Arr2Int))), (i1 + 1))))
                   (M.bif (!old2)
                      (M.chk (out1.length + ([(⟨(atD f1.Code k1).A, (atD f1.Code k1).B⟩ : Arr2Int)] : List Arr2Int).length < 1000000000000) <|
                       M.chk (okI (k1 + 1)) <|
                       again1 ((k1 + 1), (out1 ++ ([(⟨(atD f1.Code k1).A, (atD f1.Code k1).B⟩ : Arr2Int)] : List Arr2Int))))
                      (M.chk (okI (k1 + 1)) <|
                       again1 ((k1 + 1), out1)))) (old1, 0)) fun k2 =>
         M.bif (!decide (((atD f1.Code k1).Op) = 17))
           (k2 true)
           (k2 (decide (((atD f1.Code k1).A) = ((atD f1.Code k1).B)))))
        (M.ret out1)) (0, ([] : List Arr2Int))
def r19_Members (to1 : List Int) (s1 : Int) : M (List Int) :=
  M.loop (fun again1 ((t1, out1) : Int × List Int) =>
      M.bif (decide (t1 < (to1.length : Int)))
        (M.chk ((0 : Int) ≤ t1 ∧ t1 < (to1.length : Int)) <|
         M.bif (decide ((atD to1 t1) = s1))
           (M.chk (out1.length + ([t1] : List Int).length < 1000000000000) <|
            M.chk (okI (t1 + 1)) <|
            again1 ((t1 + 1), (out1 ++ ([t1] : List Int))))
           (M.chk (okI (t1 + 1)) <|
            again1 ((t1 + 1), out1)))
        (M.ret out1)) (0, ([] : List Int))
def r19_apart (g1 : List (List Int)) (to1 : List Int) (a1 : Int) (b1 : Int) : M (Bool) :=
  M.call (r19_Members to1 a1) fun x1 =>
  M.call (r19_Members to1 b1) fun x2 =>
  M.loop (fun again1 (i1 : Int) =>
      M.bif (decide (i1 < (x1.length : Int)))
        (M.loop (fun again2 (k1 : Int) =>
             M.bif (decide (k1 < (x2.length : Int)))
               (M.chk ((0 : Int) ≤ i1 ∧ i1 < (x1.length : Int)) <|
                M.chk ((0 : Int) ≤ (atD x1 i1) ∧ (atD x1 i1) < (g1.length : Int)) <|
                M.chk ((0 : Int) ≤ k1 ∧ k1 < (x2.length : Int)) <|
                M.call (r04_Has (atD g1 (atD x1 i1)) (atD x2 k1)) fun x3 =>
                M.bif x3
                  (M.ret false)
                  (M.chk (okI (k1 + 1)) <|
                   again2 (k1 + 1)))
               (M.chk (okI (i1 + 1)) <|
                again1 (i1 + 1))) 0)
        (M.ret true)) 0
def r19_Classes (f1 : AFunc) (g1 : List (List Int)) : M (List Int) :=
  M.loop (fun again1 ((s1, to1) : Int × List Int) =>
      M.bif (decide (s1 < (f1.Slots.length : Int)))
        (M.chk (to1.length + ([s1] : List Int).length < 1000000000000) <|
         M.chk (okI (s1 + 1)) <|
         again1 ((s1 + 1), (to1 ++ ([s1] : List Int))))
        (M.call (r18_Moves f1) fun x1 =>
         M.loop (fun again2 ((i1, to2) : Int × List Int) =>
             M.bif (decide (i1 < (x1.length : Int)))
               (M.chk ((0 : Int) ≤ i1 ∧ i1 < (x1.length : Int)) <|
                M.chk ((0 : Int) ≤ (atD x1 i1).e0 ∧ (atD x1 i1).e0 < (to2.length : Int)) <|
                M.chk ((0 : Int) ≤ i1 ∧ i1 < (x1.length : Int)) <|
                M.chk ((0 : Int) ≤ (atD x1 i1).e1 ∧ (atD x1 i1).e1 < (to2.length : Int)) <|
                M.bif (decide ((atD to2 ((atD x1 i1).e0)) = (atD to2 ((atD x1 i1).e1))))
                  (M.chk (okI (i1 + 1)) <|
                   again2 ((i1 + 1), to2))
                  (M.call (r19_apart g1 to2 (atD to2 ((atD x1 i1).e0)) (atD to2 ((atD x1 i1).e1))) fun x2 =>
                   M.bif (!x2)
                     (M.chk (okI (i1 + 1)) <|
                      again2 ((i1 + 1), to2))
                     (M.loop (fun again3 ((s2, to3) : Int × List Int) =>
                          M.bif (decide (s2 < (to3.length : Int)))
                            (M.chk ((0 : Int) ≤ s2 ∧ s2 < (to3.length : Int)) <|
                             M.bif (decide ((atD to3 s2) = (atD to2 ((atD x1 i1).e0))))
                               (M.chk ((0 : Int) ≤ s2 ∧ s2 < (to3.length : Int)) <|
                                M.chk (okI (s2 + 1)) <|
                                again3 ((s2 + 1), (setD to3 s2 (min (atD to2 ((atD x1 i1).e0)) (atD to2 ((atD x1 i1).e1))))))
                               (M.chk ((0 : Int) ≤ s2 ∧ s2 < (to3.length : Int)) <|
                                M.bif (decide ((atD to3 s2) = (atD to2 ((atD x1 i1).e1))))
                                  (M.chk ((0 : Int) ≤ s2 ∧ s2 < (to3.length : Int)) <|
                                   M.chk (okI (s2 + 1)) <|
                                   again3 ((s2 + 1), (setD to3 s2 (min (atD to2 ((atD x1 i1).e0)) (atD to2 ((atD x1 i1).e1))))))
                                  (M.chk (okI (s2 + 1)) <|
                                   again3 ((s2 + 1), to3))))
                            (M.chk (okI (i1 + 1)) <|
                             again2 ((i1 + 1), to3))) (0, to2))))
               (M.ret to2)) (0, to1))) (0, ([] : List Int))
def law19_CoalesceClasses (codes1 : List Int) : M (Bool) :=
  M.call (law19_awake) fun x1 =>
  M.bif (!x1)
    (M.ret false)
    (M.call (law19_scene codes1) fun x2 =>
     M.chk ((0 : Int) ≤ x2.2.1 ∧ x2.2.1 < (x2.1.Funcs.length : Int)) <|
     M.call (coalesce_Classes (atD x2.1.Funcs x2.2.1) x2.2.2.1) fun x3 =>
     M.chk ((0 : Int) ≤ x2.2.1 ∧ x2.2.1 < (x2.1.Funcs.length : Int)) <|
     M.call (r19_Classes (atD x2.1.Funcs x2.2.1) x2.2.2.1) fun x4 =>
     M.call (r04_Same x3 x4) fun x5 =>
     M.ret x5)
def law19_CoalesceIsGreedy (codes1 : List Int) : M (Bool) :=
  M.call (law19_awake) fun x1 =>
  M.bif (!x1)
    (M.ret false)
    (M.call (law19_scene codes1) fun x2 =>
     M.chk ((0 : Int) ≤ x2.2.1 ∧ x2.2.1 < (x2.1.Funcs.length : Int)) <|
     M.call (coalesce_Classes (atD x2.1.Funcs x2.2.1) x2.2.2.1) fun x3 =>
     M.bif (!decide ((x3.length : Int) = (((atD x2.1.Funcs x2.2.1).Slots).length : Int)))
       (M.ret false)
       (M.call (r18_Moves (atD x2.1.Funcs x2.2.1)) fun x4 =>
        M.loop (fun again1 (k1 : Int) =>
            M.bif (decide (k1 < (x4.length : Int)))
              (M.chk ((0 : Int) ≤ k1 ∧ k1 < (x4.length : Int)) <|
               M.chk ((0 : Int) ≤ (atD x4 k1).e0 ∧ (atD x4 k1).e0 < (x3.length : Int)) <|
               M.chk ((0 : Int) ≤ k1 ∧ k1 < (x4.length : Int)) <|
               M.chk ((0 : Int) ≤ (atD x4 k1).e1 ∧ (atD x4 k1).e1 < (x3.length : Int)) <|
               M.loop (fun again2 ((clash1, s1) : Bool × Int) =>
                   M.bif (decide (s1 < (x3.length : Int)))
                     (M.loop (fun again3 ((clash2, t1) : Bool × Int) =>
                          M.bif (decide (t1 < (x3.length : Int)))
                            (M.bif clash2
                               (M.chk (okI (t1 + 1)) <|
                                again3 (true, (t1 + 1)))
                               (M.chk ((0 : Int) ≤ s1 ∧ s1 < (x3.length : Int)) <|
                                M.bif (decide ((atD x3 s1) = (atD x3 ((atD x4 k1).e0))))
                                  (M.chk ((0 : Int) ≤ t1 ∧ t1 < (x3.length : Int)) <|
                                   M.bif (decide ((atD x3 t1) = (atD x3 ((atD x4 k1).e1))))
                                     (M.chk ((0 : Int) ≤ s1 ∧ s1 < (x2.2.2.1.length : Int)) <|
                                      M.call (r04_Has (atD x2.2.2.1 s1) t1) fun x5 =>
                                      M.chk (okI (t1 + 1)) <|
                                      again3 (x5, (t1 + 1)))
                                     (M.chk (okI (t1 + 1)) <|
                                      again3 (false, (t1 + 1))))
                                  (M.chk (okI (t1 + 1)) <|
                                   again3 (false, (t1 + 1)))))
                            (M.chk (okI (s1 + 1)) <|
                             again2 (clash2, (s1 + 1)))) (clash1, 0))
                     (M.bif (!clash1)
                        (M.ret false)
                        (M.chk (okI (k1 + 1)) <|
                         again1 (k1 + 1)))) ((decide ((atD x3 ((atD x4 k1).e0)) = (atD x3 ((atD x4 k1).e1)))), 0))
              (M.ret true)) 0))
def law19_CoalesceJoinsOnlyMovedSlots (codes1 : List Int) : M (Bool) :=
  M.call (law19_awake) fun x1 =>
  M.bif (!x1)
    (M.ret false)
    (M.call (law19_scene codes1) fun x2 =>
     M.chk ((0 : Int) ≤ x2.2.1 ∧ x2.2.1 < (x2.1.Funcs.length : Int)) <|
     M.chk ((0 : Int) ≤ (((atD x2.1.Funcs x2.2.1).Slots).length : Int) ∧ (((atD x2.1.Funcs x2.2.1).Slots).length : Int) < 1000000000000) <|
     M.call (coalesce_Classes (atD x2.1.Funcs x2.2.1) (repD (((atD x2.1.Funcs x2.2.1).Slots).length : Int) : List (List Int))) fun x3 =>
     M.bif (!decide ((x3.length : Int) = (((atD x2.1.Funcs x2.2.1).Slots).length : Int)))
       (M.ret false)
       (M.call (r18_Moves (atD x2.1.Funcs x2.2.1)) fun x4 =>
        M.loop (fun again1 (s1 : Int) =>
            M.bif (decide (s1 < (x3.length : Int)))
              (M.loop (fun again2 ((moved1, k1) : Bool × Int) =>
                   M.bif (decide (k1 < (x4.length : Int)))
                     (M.join (fun (moved2 : Bool) =>
                          M.chk ((0 : Int) ≤ k1 ∧ k1 < (x4.length : Int)) <|
                          M.chk ((0 : Int) ≤ (atD x4 k1).e0 ∧ (atD x4 k1).e0 < (x3.length : Int)) <|
                          M.chk ((0 : Int) ≤ k1 ∧ k1 < (x4.length : Int)) <|
                          M.chk ((0 : Int) ≤ (atD x4 k1).e1 ∧ (atD x4 k1).e1 < (x3.length : Int)) <|
                          M.bif (!decide ((atD x3 ((atD x4 k1).e0)) = (atD x3 ((atD x4 k1).e1))))
                            (M.ret false)
                            (M.chk (okI (k1 + 1)) <|
                             again2 (moved2, (k1 + 1)))) fun k2 =>
                      M.bif moved1
                        (k2 true)
                        (M.chk ((0 : Int) ≤ k1 ∧ k1 < (x4.length : Int)) <|
                         M.bif (decide (((atD x4 k1).e0) = s1))
                           (k2 true)
                           (M.chk ((0 : Int) ≤ k1 ∧ k1 < (x4.length : Int)) <|
                            k2 (decide (((atD x4 k1).e1) = s1)))))
                     (M.bif (!moved1)
                        (M.chk ((0 : Int) ≤ s1 ∧ s1 < (x3.length : Int)) <|
                         M.bif (!decide ((atD x3 s1) = s1))
                           (M.ret false)
                           (M.call (coalesce_Members x3 s1) fun x5 =>
                            M.bif (!decide ((x5.length : Int) = 1))
                              (M.ret false)
                              (M.chk (okI (s1 + 1)) <|
                               again1 (s1 + 1))))
                        (M.chk (okI (s1 + 1)) <|
                         again1 (s1 + 1)))) (false, 0))
              (M.ret true)) 0))
def coalesce_Valid (f1 : AFunc) (to1 : List Int) : M (Bool) :=
  M.bif (!decide ((to1.length : Int) = (f1.Slots.length : Int)))
    (M.ret false)
    (M.loop (fun again1 (x1 : Int) =>
         M.bif (decide (x1 < (to1.length : Int)))
           (M.chk ((0 : Int) ≤ x1 ∧ x1 < (to1.length : Int)) <|
            M.bif (decide ((atD to1 x1) < 0))
              (M.ret false)
              (M.bif (decide ((to1.length : Int) ≤ (atD to1 x1)))
                 (M.ret false)
                 (M.chk ((0 : Int) ≤ (atD to1 x1) ∧ (atD to1 x1) < (f1.Slots.length : Int)) <|
                  M.chk ((0 : Int) ≤ x1 ∧ x1 < (f1.Slots.length : Int)) <|
                  M.bif (!decide (((atD f1.Slots (atD to1 x1)).Size) = ((atD f1.Slots x1).Size)))
                    (M.ret false)
                    (M.chk ((0 : Int) ≤ (atD to1 x1) ∧ (atD to1 x1) < (to1.length : Int)) <|
                     M.bif (!decide ((atD to1 (atD to1 x1)) = (atD to1 x1)))
                       (M.ret false)
                       (M.chk (okI (x1 + 1)) <|
                        again1 (x1 + 1))))))
           (M.ret true)) 0)
def law19_CoalesceKeepsInterferingSlotsApart (codes1 : List Int) : M (Bool) :=
  M.call (law19_awake) fun x1 =>
  M.bif (!x1)
    (M.ret false)
    (M.call (law19_scene codes1) fun x2 =>
     M.chk ((0 : Int) ≤ x2.2.1 ∧ x2.2.1 < (x2.1.Funcs.length : Int)) <|
     M.call (coalesce_Classes (atD x2.1.Funcs x2.2.1) x2.2.2.1) fun x3 =>
     M.call (coalesce_Valid (atD x2.1.Funcs x2.2.1) x3) fun x4 =>
     M.bif (!x4)
       (M.ret false)
       (M.bif (!decide ((x3.length : Int) = (((atD x2.1.Funcs x2.2.1).Slots).length : Int)))
          (M.ret false)
          (M.loop (fun again1 (s1 : Int) =>
               M.bif (decide (s1 < (x3.length : Int)))
                 (M.chk ((0 : Int) ≤ s1 ∧ s1 < (x3.length : Int)) <|
                  M.bif (decide (s1 < (atD x3 s1)))
                    (M.ret false)
                    (M.chk ((0 : Int) ≤ s1 ∧ s1 < (x3.length : Int)) <|
                     M.bif (decide ((atD x3 s1) < 0))
                       (M.ret false)
                       (M.loop (fun again2 (t1 : Int) =>
                            M.bif (decide (t1 < s1))
                              (M.chk ((0 : Int) ≤ s1 ∧ s1 < (x3.length : Int)) <|
                               M.chk ((0 : Int) ≤ t1 ∧ t1 < (x3.length : Int)) <|
                               M.bif (decide ((atD x3 s1) = (atD x3 t1)))
                                 (M.chk ((0 : Int) ≤ s1 ∧ s1 < (x2.2.2.1.length : Int)) <|
                                  M.call (r04_Has (atD x2.2.2.1 s1) t1) fun x5 =>
                                  M.bif x5
                                    (M.ret false)
                                    (M.chk ((0 : Int) ≤ s1 ∧ s1 < (((atD x2.1.Funcs x2.2.1).Slots).length : Int)) <|
                                     M.chk ((0 : Int) ≤ t1 ∧ t1 < (((atD x2.1.Funcs x2.2.1).Slots).length : Int)) <|
                                     M.bif (!decide (((atD ((atD x2.1.Funcs x2.2.1).Slots) s1).Size) = ((atD ((atD x2.1.Funcs x2.2.1).Slots) t1).Size)))
                                       (M.ret false)
                                       (M.chk (okI (t1 + 1)) <|
                                        again2 (t1 + 1))))
                                 (M.chk (okI (t1 + 1)) <|
                                  again2 (t1 + 1)))
                              (M.chk (okI (s1 + 1)) <|
                               again1 (s1 + 1))) 0)))
                 (M.ret true)) 0)))
end Go.Proofs.Ytechhjednmnmpaa.Q
