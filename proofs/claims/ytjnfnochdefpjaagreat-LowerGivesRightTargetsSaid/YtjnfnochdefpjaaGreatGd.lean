/- The data of the program, and its functions as lifted texts (written by a program). -/
import Derived.Test.YtjnfnochdefpjaaGreatPureB
set_option linter.unusedVariables false
namespace Go.Proofs.YtjnfnochdefpjaaGreat.Q
/-- What the package bitset does (known by hand). -/
def in512 (n : Int) : Bool := decide (0 ≤ n ∧ n < 512)
def setOf (l : List Int) : List Int := ((List.range 512).filter fun k : Nat => decide ((k : Int) ∈ l)).map fun k : Nat => (k : Int)
/-- In order, all of them in range. -/
def ascS (l : List Int) : Bool := (List.range l.length).all fun j => in512 (l.getD j 0) && (decide (j = 0) || decide (l.getD (j - 1) 0 < l.getD j 0))
structure ASlot where
  Size : Int
  Align : Int
  deriving DecidableEq
instance : Inhabited ASlot := ⟨⟨0, 0⟩⟩
structure AInstr where
  Op : Int
  A : Int
  B : Int
  C : Int
  Imm : Int
  deriving DecidableEq
instance : Inhabited AInstr := ⟨⟨0, 0, 0, 0, 0⟩⟩
structure AFunc where
  Params : Int
  Slots : List ASlot
  Code : List AInstr
  deriving DecidableEq
instance : Inhabited AFunc := ⟨⟨0, [], []⟩⟩
structure ALayout where
  Args : Int
  Size : Int
  Off : List Int
  deriving DecidableEq
instance : Inhabited ALayout := ⟨⟨0, 0, []⟩⟩
structure DCodes where
  list : List Int
  at_ : Int
  deriving DecidableEq
instance : Inhabited DCodes := ⟨⟨[], 0⟩⟩
structure AProgram where
  Funcs : List AFunc
  deriving DecidableEq
instance : Inhabited AProgram := ⟨⟨[]⟩⟩
structure ALive where
  Out : List (List Int)
  deriving DecidableEq
instance : Inhabited ALive := ⟨⟨[]⟩⟩
structure Arr2Int where
  e0 : Int
  e1 : Int
  deriving DecidableEq
instance : Inhabited Arr2Int := ⟨⟨0, 0⟩⟩
structure ARename where
  To : List Int
  Keep : List Bool
  deriving DecidableEq
instance : Inhabited ARename := ⟨⟨[], []⟩⟩
structure AInterval where
  Off : Int
  Size : Int
  deriving DecidableEq
instance : Inhabited AInterval := ⟨⟨0, 0⟩⟩
structure AProposal where
  Live : ALive
  Rename : ARename
  LiveAfter : ALive
  Layout : ALayout
  deriving DecidableEq
instance : Inhabited AProposal := ⟨⟨default, default, default, default⟩⟩
structure Layout_subject where
  p : AProgram
  i : Int
  align : Int
  f : AFunc
  y : ALayout
  deriving DecidableEq
instance : Inhabited Layout_subject := ⟨⟨default, 0, 0, default, default⟩⟩
structure AFrame where
  Params : Int
  Size : Int
  Code : List AInstr
  deriving DecidableEq
instance : Inhabited AFrame := ⟨⟨0, 0, []⟩⟩
structure ATarget where
  Align : Int
  Frames : List AFrame
  deriving DecidableEq
instance : Inhabited ATarget := ⟨⟨0, []⟩⟩
def lower_same (_1 : AFunc) (_2 : ALayout) (x1 : AInstr) : M (AInstr) :=
  M.ret x1
def lower_translations_1 (f1 : AFunc) (y1 : ALayout) (x1 : AInstr) : M (AInstr) :=
  M.chk ((0 : Int) ≤ x1.B ∧ x1.B < (y1.Off.length : Int)) <|
  M.chk ((0 : Int) ≤ x1.B ∧ x1.B < (f1.Slots.length : Int)) <|
  M.ret (⟨15, x1.A, (atD y1.Off x1.B), (atD f1.Slots x1.B).Size, 0⟩ : AInstr)
def lower_translations_2 (f1 : AFunc) (y1 : ALayout) (x1 : AInstr) : M (AInstr) :=
  M.chk ((0 : Int) ≤ x1.A ∧ x1.A < (y1.Off.length : Int)) <|
  M.chk ((0 : Int) ≤ x1.A ∧ x1.A < (f1.Slots.length : Int)) <|
  M.ret (⟨16, (atD y1.Off x1.A), x1.B, (atD f1.Slots x1.A).Size, 0⟩ : AInstr)
def lower_translations_3 (f1 : AFunc) (y1 : ALayout) (x1 : AInstr) : M (AInstr) :=
  M.chk ((0 : Int) ≤ x1.A ∧ x1.A < (y1.Off.length : Int)) <|
  M.chk ((0 : Int) ≤ x1.B ∧ x1.B < (y1.Off.length : Int)) <|
  M.chk ((0 : Int) ≤ x1.A ∧ x1.A < (f1.Slots.length : Int)) <|
  M.ret (⟨17, (atD y1.Off x1.A), (atD y1.Off x1.B), (atD f1.Slots x1.A).Size, 0⟩ : AInstr)
def lower_translations_4 (_1 : AFunc) (_2 : ALayout) (x1 : AInstr) : M (AInstr) :=
  M.chk (okI ((16 : Int) * x1.A)) <|
  M.ret (⟨16, ((16 : Int) * x1.A), x1.B, 16, 0⟩ : AInstr)
def lower_translations_5 (_1 : AFunc) (y1 : ALayout) (x1 : AInstr) : M (AInstr) :=
  M.chk (okI ((16 : Int) * x1.B)) <|
  M.chk (okI (y1.Size + ((16 : Int) * x1.B))) <|
  M.ret (⟨15, x1.A, (y1.Size + ((16 : Int) * x1.B)), 16, 0⟩ : AInstr)
def lower_translations  : M (Unit) :=
  M.chk (okI ((0 : Int) + 1)) <|
  M.chk (okI ((1 : Int) + 1)) <|
  M.chk (okI ((2 : Int) + 1)) <|
  M.chk (okI ((3 : Int) + 1)) <|
  M.chk (okI ((4 : Int) + 1)) <|
  M.chk (okI ((5 : Int) + 1)) <|
  M.chk (okI ((6 : Int) + 1)) <|
  M.chk (okI ((7 : Int) + 1)) <|
  M.chk (okI ((8 : Int) + 1)) <|
  M.chk (okI ((9 : Int) + 1)) <|
  M.chk (okI ((10 : Int) + 1)) <|
  M.chk (okI ((11 : Int) + 1)) <|
  M.chk (okI ((12 : Int) + 1)) <|
  M.chk (okI ((13 : Int) + 1)) <|
  M.chk (okI ((14 : Int) + 1)) <|
  M.chk (okI ((15 : Int) + 1)) <|
  M.chk (okI ((16 : Int) + 1)) <|
  M.chk (okI ((17 : Int) + 1)) <|
  M.chk (okI ((18 : Int) + 1)) <|
  M.chk (okI ((19 : Int) + 1)) <|
  M.chk (okI ((20 : Int) + 1)) <|
  M.chk (okI ((21 : Int) + 1)) <|
  M.chk (okI ((22 : Int) + 1)) <|
  M.chk (okI ((23 : Int) + 1)) <|
  M.chk (okI ((24 : Int) + 1)) <|
  M.ret ()
def lower_Instr (f1 : AFunc) (y1 : ALayout) (x1 : AInstr) : M (AInstr) :=
  M.call (lower_translations) fun x2 =>
  M.bif (decide (x1.Op = 0))
    (M.call (lower_same f1 y1 x1) fun x3 =>
     M.ret x3)
    (M.bif (decide (x1.Op = 1))
       (M.call (lower_same f1 y1 x1) fun x4 =>
        M.ret x4)
       (M.bif (decide (x1.Op = 2))
          (M.call (lower_same f1 y1 x1) fun x5 =>
           M.ret x5)
          (M.bif (decide (x1.Op = 3))
             (M.call (lower_same f1 y1 x1) fun x6 =>
              M.ret x6)
             (M.bif (decide (x1.Op = 4))
                (M.call (lower_same f1 y1 x1) fun x7 =>
                 M.ret x7)
                (M.bif (decide (x1.Op = 5))
                   (M.call (lower_same f1 y1 x1) fun x8 =>
                    M.ret x8)
                   (M.bif (decide (x1.Op = 6))
                      (M.call (lower_same f1 y1 x1) fun x9 =>
                       M.ret x9)
                      (M.bif (decide (x1.Op = 7))
                         (M.call (lower_same f1 y1 x1) fun x10 =>
                          M.ret x10)
                         (M.bif (decide (x1.Op = 8))
                            (M.call (lower_same f1 y1 x1) fun x11 =>
                             M.ret x11)
                            (M.bif (decide (x1.Op = 9))
                               (M.call (lower_same f1 y1 x1) fun x12 =>
                                M.ret x12)
                               (M.bif (decide (x1.Op = 10))
                                  (M.call (lower_same f1 y1 x1) fun x13 =>
                                   M.ret x13)
                                  (M.bif (decide (x1.Op = 11))
                                     (M.call (lower_same f1 y1 x1) fun x14 =>
                                      M.ret x14)
                                     (M.bif (decide (x1.Op = 12))
                                        (M.call (lower_same f1 y1 x1) fun x15 =>
                                         M.ret x15)
                                        (M.bif (decide (x1.Op = 13))
                                           (M.call (lower_same f1 y1 x1) fun x16 =>
                                            M.ret x16)
                                           (M.bif (decide (x1.Op = 14))
                                              (M.call (lower_same f1 y1 x1) fun x17 =>
                                               M.ret x17)
                                              (M.bif (decide (x1.Op = 15))
                                                 (M.call (lower_translations_1 f1 y1 x1) fun x18 =>
                                                  M.ret x18)
                                                 (M.bif (decide (x1.Op = 16))
                                                    (M.call (lower_translations_2 f1 y1 x1) fun x19 =>
                                                     M.ret x19)
                                                    (M.bif (decide (x1.Op = 17))
                                                       (M.call (lower_translations_3 f1 y1 x1) fun x20 =>
                                                        M.ret x20)
                                                       (M.bif (decide (x1.Op = 18))
                                                          (M.call (lower_translations_4 f1 y1 x1) fun x21 =>
                                                           M.ret x21)
                                                          (M.bif (decide (x1.Op = 19))
                                                             (M.call (lower_translations_5 f1 y1 x1) fun x22 =>
                                                              M.ret x22)
                                                             (M.bif (decide (x1.Op = 20))
                                                                (M.call (lower_same f1 y1 x1) fun x23 =>
                                                                 M.ret x23)
                                                                (M.bif (decide (x1.Op = 21))
                                                                   (M.call (lower_same f1 y1 x1) fun x24 =>
                                                                    M.ret x24)
                                                                   (M.bif (decide (x1.Op = 22))
                                                                      (M.call (lower_same f1 y1 x1) fun x25 =>
                                                                       M.ret x25)
                                                                      (M.bif (decide (x1.Op = 23))
                                                                         (M.call (lower_same f1 y1 x1) fun x26 =>
                                                                          M.ret x26)
                                                                         (M.chk ((decide (x1.Op = 24)) = true) <|
                                                                          M.call (lower_same f1 y1 x1) fun x27 =>
                                                                          M.ret x27))))))))))))))))))))))))
def law26_awake  : M (Bool) :=
  M.call (lower_Instr (⟨0, ([(⟨4, 4⟩ : ASlot)] : List ASlot), ([] : List AInstr)⟩ : AFunc) (⟨0, 32, ([16] : List Int)⟩ : ALayout) (⟨15, 1, 0, 0, 0⟩ : AInstr)) fun x1 =>
  M.bif (decide (x1.B = 16))
    (M.ret (decide (x1.C = 4)))
    (M.ret false)
def draw_New (list1 : List Int) (limit1 : Int) : M (DCodes) :=
  M.chk ((0 : Int) ≤ 0 ∧ 0 ≤ (min (list1.length : Int) limit1) ∧ (min (list1.length : Int) limit1) ≤ (list1.length : Int)) <|
  M.ret (⟨(sliceD list1 0 (min (list1.length : Int) limit1)), 0⟩ : DCodes)
def draw_Left (c1 : DCodes) : M (Bool × DCodes) :=
  M.ret ((decide (c1.at_ < (c1.list.length : Int))), c1)
def draw_Next (c1 : DCodes) (n1 : Int) : M (Int × DCodes) :=
  M.call (draw_Left c1) fun x1 =>
  M.bif (!x1.1)
    (M.ret (0, x1.2))
    (M.bif (decide (n1 < 1))
       (M.ret (0, x1.2))
       (M.chk ((0 : Int) ≤ x1.2.at_ ∧ x1.2.at_ < (x1.2.list.length : Int)) <|
        M.chk (okI (atD x1.2.list x1.2.at_)) <|
        M.chk (okI (x1.2.at_ + 1)) <|
        M.chk (okI ((atD x1.2.list x1.2.at_) * n1)) <|
        M.chk ((0 : Int) ≤ ((atD x1.2.list x1.2.at_) * n1) ∧ (0 : Int) < 256 ∧ ((atD x1.2.list x1.2.at_) * n1) ≤ 9223372036854775807) <|
        M.ret ((((atD x1.2.list x1.2.at_) * n1) / 256), (⟨x1.2.list, (x1.2.at_ + 1)⟩ : DCodes))))
def draw_Slot (c1 : DCodes) : M (ASlot × DCodes) :=
  M.call (draw_Next c1 7) fun x1 =>
  M.chk ((0 : Int) ≤ x1.1 ∧ x1.1 < (([8, 4, 8, 1, 2, 16, 8] : List Int).length : Int)) <|
  M.call (draw_Next x1.2 8) fun x2 =>
  M.chk ((0 : Int) ≤ x2.1 ∧ x2.1 < (([8, 4, 1, 8, 16, 2, 32, 64] : List Int).length : Int)) <|
  M.ret ((⟨(atD ([8, 4, 8, 1, 2, 16, 8] : List Int) x1.1), (atD ([8, 4, 1, 8, 16, 2, 32, 64] : List Int) x2.1)⟩ : ASlot), x2.2)
def draw_Slots (c1 : DCodes) (most1 : Int) : M (List ASlot × DCodes) :=
  M.chk (okI (most1 + 1)) <|
  M.call (draw_Next c1 (most1 + 1)) fun x1 =>
  M.loop (fun again1 ((n1, c2, l1) : Int × DCodes × List ASlot) =>
      M.bif (decide (0 < n1))
        (M.call (draw_Slot c2) fun x2 =>
         M.chk (l1.length + ([x2.1] : List ASlot).length < 1000000000000) <|
         M.chk (okI (n1 - 1)) <|
         again1 ((n1 - 1), x2.2, (l1 ++ ([x2.1] : List ASlot))))
        (M.ret (l1, c2))) (x1.1, x1.2, ([] : List ASlot))
def draw_like (c1 : DCodes) (f1 : AFunc) (s1 : Int) : M (Int × DCodes) :=
  M.loop (fun again1 ((k1, l1) : Int × List Int) =>
      M.bif (decide (k1 < (f1.Slots.length : Int)))
        (M.chk ((0 : Int) ≤ k1 ∧ k1 < (f1.Slots.length : Int)) <|
         M.chk ((0 : Int) ≤ s1 ∧ s1 < (f1.Slots.length : Int)) <|
         M.bif (decide (((atD f1.Slots k1).Size) = ((atD f1.Slots s1).Size)))
           (M.chk (l1.length + ([k1] : List Int).length < 1000000000000) <|
            M.chk (okI (k1 + 1)) <|
            again1 ((k1 + 1), (l1 ++ ([k1] : List Int))))
           (M.chk (okI (k1 + 1)) <|
            again1 ((k1 + 1), l1)))
        (M.call (draw_Next c1 (l1.length : Int)) fun x1 =>
         M.chk ((0 : Int) ≤ x1.1 ∧ x1.1 < (l1.length : Int)) <|
         M.ret ((atD l1 x1.1), x1.2))) (0, ([] : List Int))
def draw_Word (c1 : DCodes) : M (Int × DCodes) :=
  M.call (draw_Next c1 6) fun x1 =>
  M.bif (decide (x1.1 = 0))
    (M.call (draw_Next x1.2 3) fun x2 =>
     M.chk ((0 : Int) ≤ x2.1 ∧ x2.1 ≤ 18446744073709551615) <|
     M.chk ((0 : Int) ≤ (18446744073709551615 : Int) - x2.1 ∧ (18446744073709551615 : Int) - x2.1 ≤ 18446744073709551615) <|
     M.ret (((18446744073709551615 : Int) - x2.1), x2.2))
    (M.bif (decide (x1.1 = 1))
       (M.call (draw_Next x1.2 64) fun x3 =>
        M.chk ((0 : Int) ≤ x3.1 ∧ x3.1 ≤ 64 ∧ (0 ≤ (1 : Int) * 2 ^ x3.1.toNat ∧ (1 : Int) * 2 ^ x3.1.toNat ≤ 18446744073709551615)) <|
        M.ret (((1 : Int) * 2 ^ x3.1.toNat), x3.2))
       (M.bif (decide (x1.1 = 2))
          (M.ret (0, x1.2))
          (M.call (draw_Next x1.2 256) fun x4 =>
           M.chk ((0 : Int) ≤ x4.1 ∧ x4.1 ≤ 18446744073709551615) <|
           M.ret (x4.1, x4.2))))
def draw_body (c1 : DCodes) (f1 : AFunc) (i1 : Int) (params1 : List Int) : M (List AInstr × DCodes) :=
  M.call (draw_Next c1 4) fun x1 =>
  M.call (draw_Next x1.2 20) fun x2 =>
  M.join (fun (x3 : Bool) =>
      M.bif x3
        (M.call (draw_Next x2.2 (f1.Slots.length : Int)) fun x4 =>
         M.ret (([(⟨16, x4.1, x1.1, 0, 0⟩ : AInstr)] : List AInstr), x4.2))
        (M.join (fun (x5 : Bool) =>
             M.bif x5
               (M.call (draw_Next x2.2 (f1.Slots.length : Int)) fun x6 =>
                M.ret (([(⟨15, x1.1, x6.1, 0, 0⟩ : AInstr)] : List AInstr), x6.2))
               (M.join (fun (x7 : Bool) =>
                    M.bif x7
                      (M.call (draw_Next x2.2 (f1.Slots.length : Int)) fun x8 =>
                       M.call (draw_like x8.2 f1 x8.1) fun x9 =>
                       M.ret (([(⟨17, x9.1, x8.1, 0, 0⟩ : AInstr)] : List AInstr), x9.2))
                      (M.bif (decide (x2.1 < 11))
                         (M.call (draw_Word x2.2) fun x10 =>
                          M.ret (([(⟨0, x1.1, 0, 0, x10.1⟩ : AInstr)] : List AInstr), x10.2))
                         (M.bif (decide (x2.1 < 13))
                            (M.call (draw_Next x2.2 10) fun x11 =>
                             M.chk (okI ((2 : Int) + x11.1)) <|
                             M.call (draw_Next x11.2 4) fun x12 =>
                             M.call (draw_Next x12.2 8) fun x13 =>
                             M.ret (([(⟨((2 : Int) + x11.1), x1.1, x12.1, x13.1, 0⟩ : AInstr)] : List AInstr), x13.2))
                            (M.bif (decide (x2.1 < 15))
                               (M.ret (([(⟨14, x1.1, 0, 0, 0⟩ : AInstr)] : List AInstr), x2.2))
                               (M.bif (decide (x2.1 = 15))
                                  (M.call (draw_Next x2.2 3) fun x14 =>
                                   M.chk ((0 : Int) ≤ x14.1 ∧ x14.1 < (([13, 12, 1] : List Int).length : Int)) <|
                                   M.ret (([(⟨(atD ([13, 12, 1] : List Int) x14.1), x1.1, 0, 0, 0⟩ : AInstr)] : List AInstr), x14.2))
                                  (M.join (fun (x15 : Bool) =>
                                       M.bif x15
                                         (M.call (draw_Next x2.2 f1.Params) fun x16 =>
                                          M.ret (([(⟨19, x1.1, x16.1, 0, 0⟩ : AInstr)] : List AInstr), x16.2))
                                         (M.bif (decide (17 ≤ x2.1))
                                            (M.chk (okI (i1 + 1)) <|
                                             M.bif (decide ((i1 + 1) < (params1.length : Int)))
                                               (M.chk (okI (i1 + 1)) <|
                                                M.chk (okI ((params1.length : Int) - i1)) <|
                                                M.chk (okI (((params1.length : Int) - i1) - 1)) <|
                                                M.call (draw_Next x2.2 (((params1.length : Int) - i1) - 1)) fun x17 =>
                                                M.chk (okI ((i1 + 1) + x17.1)) <|
                                                M.loop (fun again1 ((a1, c2, out1) : Int × DCodes × List AInstr) =>
                                                    M.chk ((0 : Int) ≤ ((i1 + 1) + x17.1) ∧ ((i1 + 1) + x17.1) < (params1.length : Int)) <|
                                                    M.bif (decide (a1 < (atD params1 ((i1 + 1) + x17.1))))
                                                      (M.call (draw_Next c2 8) fun x18 =>
                                                       M.bif (decide (x18.1 < 7))
                                                         (M.call (draw_Next x18.2 4) fun x19 =>
                                                          M.chk (out1.length + ([(⟨18, a1, x19.1, 0, 0⟩ : AInstr)] : List AInstr).length < 1000000000000) <|
                                                          M.chk (okI (a1 + 1)) <|
                                                          again1 ((a1 + 1), x19.2, (out1 ++ ([(⟨18, a1, x19.1, 0, 0⟩ : AInstr)] : List AInstr))))
                                                         (M.chk (okI (a1 + 1)) <|
                                                          again1 ((a1 + 1), x18.2, out1)))
                                                      (M.chk (out1.length + ([(⟨22, ((i1 + 1) + x17.1), 0, 0, 0⟩ : AInstr)] : List AInstr).length < 1000000000000) <|
                                                       M.ret ((out1 ++ ([(⟨22, ((i1 + 1) + x17.1), 0, 0, 0⟩ : AInstr)] : List AInstr)), c2))) (0, x17.2, ([] : List AInstr)))
                                               (M.ret (([(⟨14, x1.1, 0, 0, 0⟩ : AInstr)] : List AInstr), x2.2)))
                                            (M.ret (([(⟨14, x1.1, 0, 0, 0⟩ : AInstr)] : List AInstr), x2.2)))) fun k4 =>
                                   M.bif (decide (x2.1 = 16))
                                     (k4 (decide (0 < f1.Params)))
                                     (k4 false))))))) fun k3 =>
                M.bif (decide (x2.1 < 9))
                  (k3 (decide (0 < (f1.Slots.length : Int))))
                  (k3 false))) fun k2 =>
         M.bif (decide (x2.1 < 6))
           (k2 (decide (0 < (f1.Slots.length : Int))))
           (k2 false))) fun k1 =>
  M.bif (decide (x2.1 < 3))
    (k1 (decide (0 < (f1.Slots.length : Int))))
    (k1 false)
def draw_function (c1 : DCodes) (i1 : Int) (params1 : List Int) (most1 : Int) : M (AFunc × DCodes) :=
  M.chk ((0 : Int) ≤ i1 ∧ i1 < (params1.length : Int)) <|
  M.call (draw_Slots c1 6) fun x1 =>
  M.loop (fun again1 ((s1, c2, code1) : Int × DCodes × List AInstr) =>
      M.bif (decide (s1 < (x1.1.length : Int)))
        (M.call (draw_Next c2 4) fun x2 =>
         M.bif (decide (x2.1 < 3))
           (M.call (draw_Next x2.2 4) fun x3 =>
            M.chk (code1.length + ([(⟨16, s1, x3.1, 0, 0⟩ : AInstr)] : List AInstr).length < 1000000000000) <|
            M.chk (okI (s1 + 1)) <|
            again1 ((s1 + 1), x3.2, (code1 ++ ([(⟨16, s1, x3.1, 0, 0⟩ : AInstr)] : List AInstr))))
           (M.chk (okI (s1 + 1)) <|
            again1 ((s1 + 1), x2.2, code1)))
        (M.chk (okI (most1 + 1)) <|
         M.call (draw_Next c2 (most1 + 1)) fun x4 =>
         M.loop (fun again2 ((n2, c3, code2) : Int × DCodes × List AInstr) =>
             M.bif (decide (0 < n2))
               (M.call (draw_body c3 (⟨(atD params1 i1), x1.1, ([] : List AInstr)⟩ : AFunc) i1 params1) fun x5 =>
                M.chk (code2.length + x5.1.length < 1000000000000) <|
                M.call (draw_Next x5.2 9) fun x6 =>
                M.bif (decide (x6.1 = 7))
                  (M.call (draw_Next x6.2 4) fun x7 =>
                   M.chk ((code2 ++ x5.1).length + ([(⟨21, x7.1, (-1), 0, 0⟩ : AInstr)] : List AInstr).length < 1000000000000) <|
                   M.chk (okI (n2 - 1)) <|
                   again2 ((n2 - 1), x7.2, ((code2 ++ x5.1) ++ ([(⟨21, x7.1, (-1), 0, 0⟩ : AInstr)] : List AInstr))))
                  (M.bif (decide (x6.1 = 8))
                     (M.call (draw_Next x6.2 3) fun x8 =>
                      M.bif (decide (x8.1 = 2))
                        (M.chk ((code2 ++ x5.1).length + ([(⟨20, (-1), 0, 0, 0⟩ : AInstr)] : List AInstr).length < 1000000000000) <|
                         M.chk (okI (n2 - 1)) <|
                         again2 ((n2 - 1), x8.2, ((code2 ++ x5.1) ++ ([(⟨20, (-1), 0, 0, 0⟩ : AInstr)] : List AInstr))))
                        (M.chk (okI (n2 - 1)) <|
                         again2 ((n2 - 1), x8.2, (code2 ++ x5.1))))
                     (M.chk (okI (n2 - 1)) <|
                      again2 ((n2 - 1), x6.2, (code2 ++ x5.1)))))
               (M.join (fun ((c4, Op1, Imm1) : DCodes × Int × Int) =>
                    M.chk (code2.length + ([(⟨Op1, 0, 0, 0, Imm1⟩ : AInstr)] : List AInstr).length < 1000000000000) <|
                    M.loop (fun again3 ((k2, c5, code3) : Int × DCodes × List AInstr) =>
                        M.bif (decide (k2 < (code3.length : Int)))
                          (M.call (draw_Next c5 8) fun x9 =>
                           M.chk (okI (k2 + x9.1)) <|
                           M.chk (okI ((k2 + x9.1) - 2)) <|
                           M.join (fun (to1 : Int) =>
                               M.chk ((0 : Int) ≤ k2 ∧ k2 < (code3.length : Int)) <|
                               M.bif (decide (((atD code3 k2).Op) = 20))
                                 (M.chk ((0 : Int) ≤ k2 ∧ k2 < (code3.length : Int)) <|
                                  M.bif (decide (((atD code3 k2).A) < 0))
                                    (M.chk ((0 : Int) ≤ k2 ∧ k2 < (code3.length : Int)) <|
                                     M.chk (okI (k2 + 1)) <|
                                     again3 ((k2 + 1), x9.2, (setD code3 k2 (⟨(atD code3 k2).Op, to1, (atD code3 k2).B, (atD code3 k2).C, (atD code3 k2).Imm⟩ : AInstr))))
                                    (M.chk ((0 : Int) ≤ k2 ∧ k2 < (code3.length : Int)) <|
                                     M.bif (decide (((atD code3 k2).Op) = 21))
                                       (M.chk ((0 : Int) ≤ k2 ∧ k2 < (code3.length : Int)) <|
                                        M.bif (decide (((atD code3 k2).B) < 0))
                                          (M.chk ((0 : Int) ≤ k2 ∧ k2 < (code3.length : Int)) <|
                                           M.chk (okI (k2 + 1)) <|
                                           again3 ((k2 + 1), x9.2, (setD code3 k2 (⟨(atD code3 k2).Op, (atD code3 k2).A, to1, (atD code3 k2).C, (atD code3 k2).Imm⟩ : AInstr))))
                                          (M.chk (okI (k2 + 1)) <|
                                           again3 ((k2 + 1), x9.2, code3)))
                                       (M.chk (okI (k2 + 1)) <|
                                        again3 ((k2 + 1), x9.2, code3))))
                                 (M.chk ((0 : Int) ≤ k2 ∧ k2 < (code3.length : Int)) <|
                                  M.bif (decide (((atD code3 k2).Op) = 21))
                                    (M.chk ((0 : Int) ≤ k2 ∧ k2 < (code3.length : Int)) <|
                                     M.bif (decide (((atD code3 k2).B) < 0))
                                       (M.chk ((0 : Int) ≤ k2 ∧ k2 < (code3.length : Int)) <|
                                        M.chk (okI (k2 + 1)) <|
                                        again3 ((k2 + 1), x9.2, (setD code3 k2 (⟨(atD code3 k2).Op, (atD code3 k2).A, to1, (atD code3 k2).C, (atD code3 k2).Imm⟩ : AInstr))))
                                       (M.chk (okI (k2 + 1)) <|
                                        again3 ((k2 + 1), x9.2, code3)))
                                    (M.chk (okI (k2 + 1)) <|
                                     again3 ((k2 + 1), x9.2, code3)))) fun k3 =>
                           M.bif (decide (((k2 + x9.1) - 2) < 0))
                             (M.chk (okI ((code3.length : Int) - 1)) <|
                              k3 ((code3.length : Int) - 1))
                             (M.bif (decide ((code3.length : Int) ≤ ((k2 + x9.1) - 2)))
                                (M.chk (okI ((code3.length : Int) - 1)) <|
                                 k3 ((code3.length : Int) - 1))
                                (k3 ((k2 + x9.1) - 2))))
                          (M.ret ((⟨(atD params1 i1), x1.1, code3⟩ : AFunc), c5))) (0, c4, (code2 ++ ([(⟨Op1, 0, 0, 0, Imm1⟩ : AInstr)] : List AInstr)))) fun k1 =>
                M.call (draw_Next c3 12) fun x10 =>
                M.bif (decide (x10.1 = 11))
                  (M.call (draw_Word x10.2) fun x11 =>
                   k1 (x11.2, 24, x11.1))
                  (k1 (x10.2, 23, 0)))) (x4.1, x4.2, code1))) (0, x1.2, ([] : List AInstr))
def draw_Program (c1 : DCodes) (funcs1 : Int) (most1 : Int) : M (AProgram × DCodes) :=
  M.call (draw_Next c1 funcs1) fun x1 =>
  M.loop (fun again1 ((n1, c2, params1) : Int × DCodes × List Int) =>
      M.bif (decide (0 < n1))
        (M.call (draw_Next c2 4) fun x2 =>
         M.chk (params1.length + ([x2.1] : List Int).length < 1000000000000) <|
         M.chk (okI (n1 - 1)) <|
         again1 ((n1 - 1), x2.2, (params1 ++ ([x2.1] : List Int))))
        (M.loop (fun again2 ((params2, i1, c3, Funcs1) : List Int × Int × DCodes × List AFunc) =>
             M.bif (decide (i1 < (params2.length : Int)))
               (M.chk (Funcs1.length < 1000000000000) <|
                M.call (draw_function c3 i1 params2 most1) fun x3 =>
                M.chk (Funcs1.length + ([x3.1] : List AFunc).length < 1000000000000) <|
                M.chk (okI (i1 + 1)) <|
                again2 (params2, (i1 + 1), x3.2, (Funcs1 ++ ([x3.1] : List AFunc))))
               (M.ret ((⟨Funcs1⟩ : AProgram), c3))) (params1, 0, c2, ([] : List AFunc)))) (x1.1, x1.2, ([0] : List Int))
def r02_Size (n1 : Int) : M (Bool) :=
  M.bif (decide (n1 = 1))
    (M.ret true)
    (M.bif (decide (n1 = 2))
       (M.ret true)
       (M.bif (decide (n1 = 4))
          (M.ret true)
          (M.bif (decide (n1 = 8))
             (M.ret true)
             (M.ret (decide (n1 = 16))))))
def r03_Power (n1 : Int) : M (Bool) :=
  M.loop (fun again1 (k1 : Int) =>
      M.bif (decide (k1 ≤ 16777216))
        (M.bif (decide (n1 = k1))
           (M.ret true)
           (M.chk (okI (k1 * 2)) <|
            again1 (k1 * 2)))
        (M.ret false)) 1
def r03_Slots (s1 : List ASlot) : M (Int) :=
  M.bif (decide (512 < (s1.length : Int)))
    (M.ret 3)
    (M.loop (fun again1 (i1 : Int) =>
         M.bif (decide (i1 < (s1.length : Int)))
           (M.chk ((0 : Int) ≤ i1 ∧ i1 < (s1.length : Int)) <|
            M.call (r02_Size ((atD s1 i1).Size)) fun x1 =>
            M.bif (!x1)
              (M.ret 5)
              (M.chk ((0 : Int) ≤ i1 ∧ i1 < (s1.length : Int)) <|
               M.call (r03_Power ((atD s1 i1).Align)) fun x2 =>
               M.bif (!x2)
                 (M.ret 5)
                 (M.chk (okI (i1 + 1)) <|
                  again1 (i1 + 1))))
           (M.ret 0)) 0)
def r03_Align (s1 : List ASlot) : M (Int) :=
  M.call (r03_Slots s1) fun x1 =>
  M.bif (!decide (x1 = 0))
    (M.ret 16)
    (M.loop (fun again1 ((a1, i1) : Int × Int) =>
         M.bif (decide (i1 < (s1.length : Int)))
           (M.chk ((0 : Int) ≤ i1 ∧ i1 < (s1.length : Int)) <|
            M.chk (okI (i1 + 1)) <|
            again1 ((max a1 ((atD s1 i1).Align)), (i1 + 1)))
           (M.ret a1)) (16, 0))
def r05_Align (p1 : AProgram) : M (Int) :=
  M.loop (fun again1 ((a1, i1) : Int × Int) =>
      M.bif (decide (i1 < (p1.Funcs.length : Int)))
        (M.chk ((0 : Int) ≤ i1 ∧ i1 < (p1.Funcs.length : Int)) <|
         M.call (r03_Align ((atD p1.Funcs i1).Slots)) fun x1 =>
         M.chk (okI (i1 + 1)) <|
         again1 ((max a1 x1), (i1 + 1)))
        (M.ret a1)) (16, 0)
def r24_Args (p1 : AProgram) (i1 : Int) : M (Int) :=
  M.chk ((0 : Int) ≤ i1 ∧ i1 < (p1.Funcs.length : Int)) <|
  M.loop (fun again1 ((n1, k1) : Int × Int) =>
      M.bif (decide (k1 < (((atD p1.Funcs i1).Code).length : Int)))
        (M.chk ((0 : Int) ≤ k1 ∧ k1 < (((atD p1.Funcs i1).Code).length : Int)) <|
         M.bif (decide (((atD ((atD p1.Funcs i1).Code) k1).Op) = 18))
           (M.chk ((0 : Int) ≤ k1 ∧ k1 < (((atD p1.Funcs i1).Code).length : Int)) <|
            M.chk (okI (((atD ((atD p1.Funcs i1).Code) k1).A) + 1)) <|
            M.chk (okI (k1 + 1)) <|
            again1 ((max n1 (((atD ((atD p1.Funcs i1).Code) k1).A) + 1)), (k1 + 1)))
           (M.bif (decide (((atD ((atD p1.Funcs i1).Code) k1).Op) = 22))
              (M.chk ((0 : Int) ≤ k1 ∧ k1 < (((atD p1.Funcs i1).Code).length : Int)) <|
               M.chk ((0 : Int) ≤ (atD ((atD p1.Funcs i1).Code) k1).A ∧ (atD ((atD p1.Funcs i1).Code) k1).A < (p1.Funcs.length : Int)) <|
               M.chk (okI (k1 + 1)) <|
               again1 ((max n1 ((atD p1.Funcs ((atD ((atD p1.Funcs i1).Code) k1).A)).Params)), (k1 + 1)))
              (M.chk (okI (k1 + 1)) <|
               again1 (n1, (k1 + 1)))))
        (M.chk (okI (n1 * 16)) <|
         M.ret (n1 * 16))) (0, 0)
def r03_Bound (n1 : Int) : M (Bool) :=
  M.bif (decide (0 ≤ n1))
    (M.ret (decide (n1 ≤ 2147483647)))
    (M.ret false)
def r03_Up (n1 : Int) (align1 : Int) : M (Int × Int) :=
  M.call (r03_Bound n1) fun x1 =>
  M.bif (!x1)
    (M.ret (0, 4))
    (M.call (r03_Power align1) fun x2 =>
     M.bif (!x2)
       (M.ret (0, 4))
       (M.join (fun (m1 : Int) =>
            M.bif (decide (2147483647 < m1))
              (M.ret (0, 9))
              (M.ret (m1, 0))) fun k1 =>
        M.chk ((0 : Int) ≤ n1 ∧ (0 : Int) < align1) <|
        M.bif (!decide ((n1 % align1) = 0))
          (M.chk ((0 : Int) ≤ n1 ∧ (0 : Int) < align1) <|
           M.chk (okI (n1 - (n1 % align1))) <|
           M.chk (okI ((n1 - (n1 % align1)) + align1)) <|
           k1 ((n1 - (n1 % align1)) + align1))
          (k1 n1)))
def r24_Baseline (p1 : AProgram) (i1 : Int) (align1 : Int) : M (ALayout × Int) :=
  M.call (r24_Args p1 i1) fun x1 =>
  M.chk ((0 : Int) ≤ i1 ∧ i1 < (p1.Funcs.length : Int)) <|
  M.loop (fun again1 ((end1, k1, Off1) : Int × Int × List Int) =>
      M.bif (decide (k1 < (((atD p1.Funcs i1).Slots).length : Int)))
        (M.chk ((0 : Int) ≤ k1 ∧ k1 < (((atD p1.Funcs i1).Slots).length : Int)) <|
         M.call (r03_Up end1 ((atD ((atD p1.Funcs i1).Slots) k1).Align)) fun x2 =>
         M.bif (!decide (x2.2 = 0))
           (M.ret ((⟨0, 0, ([] : List Int)⟩ : ALayout), 9))
           (M.chk ((0 : Int) ≤ k1 ∧ k1 < (((atD p1.Funcs i1).Slots).length : Int)) <|
            M.chk (okI ((2147483519 : Int) - ((atD ((atD p1.Funcs i1).Slots) k1).Size))) <|
            M.bif (decide (((2147483519 : Int) - ((atD ((atD p1.Funcs i1).Slots) k1).Size)) < x2.1))
              (M.ret ((⟨0, 0, ([] : List Int)⟩ : ALayout), 9))
              (M.chk (Off1.length < 1000000000000) <|
               M.chk (Off1.length + ([x2.1] : List Int).length < 1000000000000) <|
               M.chk ((0 : Int) ≤ k1 ∧ k1 < (((atD p1.Funcs i1).Slots).length : Int)) <|
               M.chk (okI (x2.1 + ((atD ((atD p1.Funcs i1).Slots) k1).Size))) <|
               M.chk (okI (k1 + 1)) <|
               again1 ((x2.1 + ((atD ((atD p1.Funcs i1).Slots) k1).Size)), (k1 + 1), (Off1 ++ ([x2.1] : List Int))))))
        (M.call (r03_Up end1 align1) fun x3 =>
         M.bif (!decide (x3.2 = 0))
           (M.ret ((⟨0, 0, ([] : List Int)⟩ : ALayout), 9))
           (M.bif (decide (2147483519 < x3.1))
              (M.ret ((⟨0, 0, ([] : List Int)⟩ : ALayout), 9))
              (M.ret ((⟨x1, x3.1, Off1⟩ : ALayout), 0))))) (x1, 0, ([] : List Int))
def r13_Next (f1 : AFunc) (k1 : Int) : M (List Int) :=
  M.bif (decide (k1 < 0))
    (M.ret ([] : List Int))
    (M.bif (decide ((f1.Code.length : Int) ≤ k1))
       (M.ret ([] : List Int))
       (M.chk ((0 : Int) ≤ k1 ∧ k1 < (f1.Code.length : Int)) <|
        M.bif (decide (((atD f1.Code k1).Op) = 20))
          (M.ret ([(atD f1.Code k1).A] : List Int))
          (M.join (fun (x1 : Bool) =>
               M.bif x1
                 (M.ret ([] : List Int))
                 (M.bif (decide (((atD f1.Code k1).Op) = 21))
                    (M.chk (okI (k1 + 1)) <|
                     M.bif (decide (((atD f1.Code k1).B) < (k1 + 1)))
                       (M.chk (okI (k1 + 1)) <|
                        M.ret ([(atD f1.Code k1).B, (k1 + 1)] : List Int))
                       (M.chk (okI (k1 + 1)) <|
                        M.bif (decide ((k1 + 1) < ((atD f1.Code k1).B)))
                          (M.chk (okI (k1 + 1)) <|
                           M.ret ([(k1 + 1), (atD f1.Code k1).B] : List Int))
                          (M.chk (okI (k1 + 1)) <|
                           M.ret ([(k1 + 1)] : List Int))))
                    (M.chk (okI (k1 + 1)) <|
                     M.ret ([(k1 + 1)] : List Int)))) fun k2 =>
           M.bif (decide (((atD f1.Code k1).Op) = 23))
             (k2 (decide (((atD f1.Code k1).Op) = 23)))
             (k2 (decide (((atD f1.Code k1).Op) = 24))))))
def r15_Removable (x1 : AInstr) : M (Bool) :=
  M.bif (decide (x1.Op = 16))
    (M.ret true)
    (M.ret (decide (x1.Op = 17)))
def r15_Defines (x1 : AInstr) : M (Int × Bool) :=
  M.call (r15_Removable x1) fun x2 =>
  M.bif x2
    (M.ret (x1.A, true))
    (M.ret (0, false))
def r04_Remove (s1 : List Int) (n1 : Int) : M (List Int) :=
  M.loop (fun again1 ((i1, out1) : Int × List Int) =>
      M.bif (decide (i1 < (s1.length : Int)))
        (M.chk ((0 : Int) ≤ i1 ∧ i1 < (s1.length : Int)) <|
         M.bif (!decide ((atD s1 i1) = n1))
           (M.chk ((0 : Int) ≤ i1 ∧ i1 < (s1.length : Int)) <|
            M.chk (out1.length + ([(atD s1 i1)] : List Int).length < 1000000000000) <|
            M.chk (okI (i1 + 1)) <|
            again1 ((i1 + 1), (out1 ++ ([(atD s1 i1)] : List Int))))
           (M.chk (okI (i1 + 1)) <|
            again1 ((i1 + 1), out1)))
        (M.ret out1)) (0, ([] : List Int))
def r15_Uses (x1 : AInstr) : M (List Int) :=
  M.bif (decide (x1.Op = 15))
    (M.ret ([x1.B] : List Int))
    (M.bif (decide (x1.Op = 17))
       (M.ret ([x1.B] : List Int))
       (M.ret ([] : List Int)))
def r04_good (n1 : Int) : M (Bool) :=
  M.bif (decide (0 ≤ n1))
    (M.ret (decide (n1 < 512)))
    (M.ret false)
def r04_Add (s1 : List Int) (n1 : Int) : M (List Int) :=
  M.call (r04_good n1) fun x1 =>
  M.loop (fun again1 ((done1, i1, out1) : Bool × Int × List Int) =>
      M.bif (decide (i1 < (s1.length : Int)))
        (M.join (fun ((done2, out2) : Bool × List Int) =>
             M.chk ((0 : Int) ≤ i1 ∧ i1 < (s1.length : Int)) <|
             M.chk (out2.length + ([(atD s1 i1)] : List Int).length < 1000000000000) <|
             M.chk (okI (i1 + 1)) <|
             again1 (done2, (i1 + 1), (out2 ++ ([(atD s1 i1)] : List Int)))) fun k1 =>
         M.bif (!done1)
           (M.chk ((0 : Int) ≤ i1 ∧ i1 < (s1.length : Int)) <|
            M.bif (decide (n1 ≤ (atD s1 i1)))
              (M.chk ((0 : Int) ≤ i1 ∧ i1 < (s1.length : Int)) <|
               M.bif (decide (n1 < (atD s1 i1)))
                 (M.chk (out1.length + ([n1] : List Int).length < 1000000000000) <|
                  k1 (true, (out1 ++ ([n1] : List Int))))
                 (k1 (true, out1)))
              (k1 (done1, out1)))
           (k1 (done1, out1)))
        (M.bif (!done1)
           (M.chk (out1.length + ([n1] : List Int).length < 1000000000000) <|
            M.ret (out1 ++ ([n1] : List Int)))
           (M.ret out1))) ((!x1), 0, ([] : List Int))
def r04_Union (a1 : List Int) (b1 : List Int) : M (List Int) :=
  M.chk (a1.length < 1000000000000) <|
  M.loop (fun again1 ((out1, i1) : List Int × Int) =>
      M.bif (decide (i1 < (b1.length : Int)))
        (M.chk ((0 : Int) ≤ i1 ∧ i1 < (b1.length : Int)) <|
         M.call (r04_Add out1 (atD b1 i1)) fun x1 =>
         M.chk (okI (i1 + 1)) <|
         again1 (x1, (i1 + 1)))
        (M.ret out1)) (a1, 0)
def r15_In (x1 : AInstr) (out1 : List Int) : M (List Int) :=
  M.join (fun (out2 : List Int) =>
      M.call (r15_Uses x1) fun x2 =>
      M.call (r04_Union out2 x2) fun x3 =>
      M.ret x3) fun k1 =>
  M.call (r15_Defines x1) fun x4 =>
  M.bif x4.2
    (M.call (r04_Remove out1 x4.1) fun x5 =>
     k1 x5)
    (k1 out1)
def r16_Step (f1 : AFunc) (l1 : ALive) : M (ALive) :=
  M.chk ((0 : Int) ≤ (f1.Code.length : Int) ∧ (f1.Code.length : Int) < 1000000000000) <|
  M.loop (fun again1 ((k1, own1) : Int × List (List Int)) =>
      M.bif (decide (k1 < (f1.Code.length : Int)))
        (M.call (r13_Next f1 k1) fun x1 =>
         M.loop (fun again2 ((i1, own2) : Int × List (List Int)) =>
             M.bif (decide (i1 < (x1.length : Int)))
               (M.chk ((0 : Int) ≤ i1 ∧ i1 < (x1.length : Int)) <|
                M.chk ((0 : Int) ≤ k1 ∧ k1 < (own2.length : Int)) <|
                M.chk ((0 : Int) ≤ (atD x1 i1) ∧ (atD x1 i1) < (f1.Code.length : Int)) <|
                M.chk ((0 : Int) ≤ (atD x1 i1) ∧ (atD x1 i1) < (l1.Out.length : Int)) <|
                M.call (r15_In (atD f1.Code (atD x1 i1)) (atD l1.Out (atD x1 i1))) fun x2 =>
                M.call (r04_Union (atD own2 k1) x2) fun x3 =>
                M.chk ((0 : Int) ≤ k1 ∧ k1 < (own2.length : Int)) <|
                M.chk (okI (i1 + 1)) <|
                again2 ((i1 + 1), (setD own2 k1 x3)))
               (M.chk (okI (k1 + 1)) <|
                again1 ((k1 + 1), own2))) (0, own1))
        (M.ret (⟨own1⟩ : ALive))) (0, (repD (f1.Code.length : Int) : List (List Int)))
def r04_Same (a1 : List Int) (b1 : List Int) : M (Bool) :=
  M.bif (!decide ((a1.length : Int) = (b1.length : Int)))
    (M.ret false)
    (M.loop (fun again1 (i1 : Int) =>
         M.bif (decide (i1 < (a1.length : Int)))
           (M.chk ((0 : Int) ≤ i1 ∧ i1 < (a1.length : Int)) <|
            M.chk ((0 : Int) ≤ i1 ∧ i1 < (b1.length : Int)) <|
            M.bif (!decide ((atD a1 i1) = (atD b1 i1)))
              (M.ret false)
              (M.chk (okI (i1 + 1)) <|
               again1 (i1 + 1)))
           (M.ret true)) 0)
def r04_SameAll (a1 : List (List Int)) (b1 : List (List Int)) : M (Bool) :=
  M.bif (!decide ((a1.length : Int) = (b1.length : Int)))
    (M.ret false)
    (M.loop (fun again1 (i1 : Int) =>
         M.bif (decide (i1 < (a1.length : Int)))
           (M.chk ((0 : Int) ≤ i1 ∧ i1 < (a1.length : Int)) <|
            M.chk ((0 : Int) ≤ i1 ∧ i1 < (b1.length : Int)) <|
            M.call (r04_Same (atD a1 i1) (atD b1 i1)) fun x1 =>
            M.bif (!x1)
              (M.ret false)
              (M.chk (okI (i1 + 1)) <|
               again1 (i1 + 1)))
           (M.ret true)) 0)
def r16_Same (a1 : ALive) (b1 : ALive) : M (Bool) :=
  M.call (r04_SameAll a1.Out b1.Out) fun x1 =>
  M.ret x1
def r16_Solve (f1 : AFunc) : M (ALive) :=
  M.chk ((0 : Int) ≤ (f1.Code.length : Int) ∧ (f1.Code.length : Int) < 1000000000000) <|
  M.loop (fun again1 (Out1 : List (List Int)) =>
      M.call (r16_Step f1 (⟨Out1⟩ : ALive)) fun x1 =>
      M.call (r16_Same x1 (⟨Out1⟩ : ALive)) fun x2 =>
      M.bif x2
        (M.ret (⟨Out1⟩ : ALive))
        (again1 x1.Out)) (repD (f1.Code.length : Int) : List (List Int))
def r04_Check (s1 : List Int) : M (Bool) :=
  M.loop (fun again1 (i1 : Int) =>
      M.bif (decide (i1 < (s1.length : Int)))
        (M.chk ((0 : Int) ≤ i1 ∧ i1 < (s1.length : Int)) <|
         M.call (r04_good (atD s1 i1)) fun x1 =>
         M.bif (!x1)
           (M.ret false)
           (M.bif (decide (0 < i1))
              (M.chk ((0 : Int) ≤ i1 ∧ i1 < (s1.length : Int)) <|
               M.chk (okI (i1 - 1)) <|
               M.chk ((0 : Int) ≤ (i1 - 1) ∧ (i1 - 1) < (s1.length : Int)) <|
               M.bif (decide ((atD s1 i1) ≤ (atD s1 (i1 - 1))))
                 (M.ret false)
                 (M.chk (okI (i1 + 1)) <|
                  again1 (i1 + 1)))
              (M.chk (okI (i1 + 1)) <|
               again1 (i1 + 1))))
        (M.ret true)) 0
def r17_shape (f1 : AFunc) (l1 : ALive) : M (Bool) :=
  M.bif (!decide ((l1.Out.length : Int) = (f1.Code.length : Int)))
    (M.ret false)
    (M.loop (fun again1 (k1 : Int) =>
         M.bif (decide (k1 < (l1.Out.length : Int)))
           (M.chk ((0 : Int) ≤ k1 ∧ k1 < (l1.Out.length : Int)) <|
            M.call (r04_Check (atD l1.Out k1)) fun x1 =>
            M.bif (!x1)
              (M.ret false)
              (M.chk ((0 : Int) ≤ k1 ∧ k1 < (l1.Out.length : Int)) <|
               M.bif (decide (0 < ((atD l1.Out k1).length : Int)))
                 (M.chk ((0 : Int) ≤ k1 ∧ k1 < (l1.Out.length : Int)) <|
                  M.chk (okI (((atD l1.Out k1).length : Int) - 1)) <|
                  M.chk ((0 : Int) ≤ (((atD l1.Out k1).length : Int) - 1) ∧ (((atD l1.Out k1).length : Int) - 1) < ((atD l1.Out k1).length : Int)) <|
                  M.bif (decide ((f1.Slots.length : Int) ≤ (atD (atD l1.Out k1) (((atD l1.Out k1).length : Int) - 1))))
                    (M.ret false)
                    (M.chk (okI (k1 + 1)) <|
                     again1 (k1 + 1)))
                 (M.chk (okI (k1 + 1)) <|
                  again1 (k1 + 1))))
           (M.ret true)) 0)
def r04_Has (s1 : List Int) (n1 : Int) : M (Bool) :=
  M.loop (fun again1 (i1 : Int) =>
      M.bif (decide (i1 < (s1.length : Int)))
        (M.chk ((0 : Int) ≤ i1 ∧ i1 < (s1.length : Int)) <|
         M.bif (decide ((atD s1 i1) = n1))
           (M.ret true)
           (M.chk (okI (i1 + 1)) <|
            again1 (i1 + 1)))
        (M.ret false)) 0
def r04_Minus (a1 : List Int) (b1 : List Int) : M (List Int) :=
  M.loop (fun again1 ((i1, out1) : Int × List Int) =>
      M.bif (decide (i1 < (a1.length : Int)))
        (M.chk ((0 : Int) ≤ i1 ∧ i1 < (a1.length : Int)) <|
         M.call (r04_Has b1 (atD a1 i1)) fun x1 =>
         M.bif (!x1)
           (M.chk ((0 : Int) ≤ i1 ∧ i1 < (a1.length : Int)) <|
            M.chk (out1.length + ([(atD a1 i1)] : List Int).length < 1000000000000) <|
            M.chk (okI (i1 + 1)) <|
            again1 ((i1 + 1), (out1 ++ ([(atD a1 i1)] : List Int))))
           (M.chk (okI (i1 + 1)) <|
            again1 ((i1 + 1), out1)))
        (M.ret out1)) (0, ([] : List Int))
def r17_missing (f1 : AFunc) (l1 : ALive) (k1 : Int) : M (List Int) :=
  M.call (r13_Next f1 k1) fun x1 =>
  M.loop (fun again1 ((out1, i1) : List Int × Int) =>
      M.bif (decide (i1 < (x1.length : Int)))
        (M.chk ((0 : Int) ≤ i1 ∧ i1 < (x1.length : Int)) <|
         M.chk ((0 : Int) ≤ (atD x1 i1) ∧ (atD x1 i1) < (f1.Code.length : Int)) <|
         M.chk ((0 : Int) ≤ (atD x1 i1) ∧ (atD x1 i1) < (l1.Out.length : Int)) <|
         M.call (r15_In (atD f1.Code (atD x1 i1)) (atD l1.Out (atD x1 i1))) fun x2 =>
         M.chk ((0 : Int) ≤ k1 ∧ k1 < (l1.Out.length : Int)) <|
         M.call (r04_Minus x2 (atD l1.Out k1)) fun x3 =>
         M.call (r04_Union out1 x3) fun x4 =>
         M.chk (okI (i1 + 1)) <|
         again1 (x4, (i1 + 1)))
        (M.ret out1)) (([] : List Int), 0)
def r17_First (f1 : AFunc) (l1 : ALive) : M (Int × Int × Bool) :=
  M.call (r17_shape f1 l1) fun x1 =>
  M.bif (!x1)
    (M.ret (0, 0, false))
    (M.loop (fun again1 (k1 : Int) =>
         M.bif (decide (k1 < (f1.Code.length : Int)))
           (M.call (r17_missing f1 l1 k1) fun x2 =>
            M.bif (decide (0 < (x2.length : Int)))
              (M.chk ((0 : Int) ≤ 0 ∧ 0 < (x2.length : Int)) <|
               M.ret (k1, (atD x2 0), true))
              (M.chk (okI (k1 + 1)) <|
               again1 (k1 + 1)))
           (M.ret (0, 0, false))) 0)
def r17_Check (f1 : AFunc) (l1 : ALive) : M (Int) :=
  M.call (r17_First f1 l1) fun x1 =>
  M.bif x1.2.2
    (M.ret 11)
    (M.call (r17_shape f1 l1) fun x2 =>
     M.bif (!x2)
       (M.ret 11)
       (M.ret 0))
def r18_graph (f1 : AFunc) (l1 : ALive) (strict1 : Bool) : M (List (List Int) × Int) :=
  M.call (r17_Check f1 l1) fun x1 =>
  M.bif (!decide (x1 = 0))
    (M.ret (([] : List (List Int)), x1))
    (M.chk ((0 : Int) ≤ (f1.Slots.length : Int) ∧ (f1.Slots.length : Int) < 1000000000000) <|
     M.loop (fun again1 ((k1, out1) : Int × List (List Int)) =>
         M.bif (decide (k1 < (f1.Code.length : Int)))
           (M.chk ((0 : Int) ≤ k1 ∧ k1 < (f1.Code.length : Int)) <|
            M.call (r15_Defines (atD f1.Code k1)) fun x2 =>
            M.join (fun (_ : Unit) =>
                M.loop (fun again2 ((i1, out2) : Int × List (List Int)) =>
                    M.chk ((0 : Int) ≤ k1 ∧ k1 < (l1.Out.length : Int)) <|
                    M.bif (decide (i1 < ((atD l1.Out k1).length : Int)))
                      (M.bif x2.2
                         (M.chk ((0 : Int) ≤ k1 ∧ k1 < (l1.Out.length : Int)) <|
                          M.chk ((0 : Int) ≤ i1 ∧ i1 < ((atD l1.Out k1).length : Int)) <|
                          M.join (fun ((x3, x4, x5) : Bool × Bool × Bool) =>
                              M.chk ((0 : Int) ≤ x2.1 ∧ x2.1 < (out2.length : Int)) <|
                              M.call (r04_Add (atD out2 x2.1) (atD (atD l1.Out k1) i1)) fun x6 =>
                              M.chk ((0 : Int) ≤ (atD (atD l1.Out k1) i1) ∧ (atD (atD l1.Out k1) i1) < (out2.length : Int)) <|
                              M.call (r04_Add (atD out2 (atD (atD l1.Out k1) i1)) x2.1) fun x7 =>
                              M.chk ((0 : Int) ≤ x2.1 ∧ x2.1 < (out2.length : Int)) <|
                              M.chk ((0 : Int) ≤ (atD (atD l1.Out k1) i1) ∧ (atD (atD l1.Out k1) i1) < ((setD out2 x2.1 x6).length : Int)) <|
                              M.chk (okI (i1 + 1)) <|
                              again2 ((i1 + 1), (setD (setD out2 x2.1 x6) (atD (atD l1.Out k1) i1) x7))) fun k3 =>
                          M.bif (decide ((atD (atD l1.Out k1) i1) = x2.1))
                            (M.chk (okI (i1 + 1)) <|
                             again2 ((i1 + 1), out2))
                            (M.bif (!strict1)
                               (M.bif (decide (((atD f1.Code k1).Op) = 17))
                                  (M.bif (decide (((atD f1.Code k1).B) = (atD (atD l1.Out k1) i1)))
                                     (M.chk (okI (i1 + 1)) <|
                                      again2 ((i1 + 1), out2))
                                     (k3 ((decide (((atD f1.Code k1).Op) = 17)), (decide (((atD f1.Code k1).Op) = 17)), (decide (((atD f1.Code k1).B) = (atD (atD l1.Out k1) i1))))))
                                  (k3 ((decide (((atD f1.Code k1).Op) = 17)), (decide (((atD f1.Code k1).Op) = 17)), false)))
                               (k3 (false, false, false))))
                         (M.chk (okI (k1 + 1)) <|
                          again1 ((k1 + 1), out2)))
                      (M.chk (okI (k1 + 1)) <|
                       again1 ((k1 + 1), out2))) (0, out1)) fun k2 =>
            M.bif (decide (((atD f1.Code k1).Op) = 17))
              (M.bif (decide (((atD f1.Code k1).A) = ((atD f1.Code k1).B)))
                 (M.chk (okI (k1 + 1)) <|
                  again1 ((k1 + 1), out1))
                 (k2 ()))
              (k2 ()))
           (M.ret (out1, 0))) (0, (repD (f1.Slots.length : Int) : List (List Int))))
def r18_Graph (f1 : AFunc) (l1 : ALive) : M (List (List Int) × Int) :=
  M.call (r18_graph f1 l1 false) fun x1 =>
  M.ret (x1.1, x1.2)
def r18_Moves (f1 : AFunc) : M (List Arr2Int) :=
  M.loop (fun again1 ((k1, out1) : Int × List Arr2Int) =>
      M.bif (decide (k1 < (f1.Code.length : Int)))
        (M.chk ((0 : Int) ≤ k1 ∧ k1 < (f1.Code.length : Int)) <|
         M.join (fun (old1 : Bool) =>
             M.loop (fun again2 ((old2, i1) : Bool × Int) =>
                 M.bif (decide (i1 < (out1.length : Int)))
                   (M.bif old2
                      (M.chk (okI (i1 + 1)) <|
                       again2 (true, (i1 + 1)))
                      (M.chk ((0 : Int) ≤ i1 ∧ i1 < (out1.length : Int)) <|
                       M.chk (okI (i1 + 1)) <|
                       again2 ((decide ((atD out1 i1) = (⟨(atD f1.Code k1).A, (atD f1.Code k1).B⟩ : Arr2Int))), (i1 + 1))))
                   (M.bif (!old2)
                      (M.chk (out1.length + ([(⟨(atD f1.Code k1).A, (atD f1.Code k1).B⟩ : Arr2Int)] : List Arr2Int).length < 1000000000000) <|
                       M.chk (okI (k1 + 1)) <|
                       again1 ((k1 + 1), (out1 ++ ([(⟨(atD f1.Code k1).A, (atD f1.Code k1).B⟩ : Arr2Int)] : List Arr2Int))))
                      (M.chk (okI (k1 + 1)) <|
                       again1 ((k1 + 1), out1)))) (old1, 0)) fun k2 =>
         M.bif (!decide (((atD f1.Code k1).Op) = 17))
           (k2 true)
           (k2 (decide (((atD f1.Code k1).A) = ((atD f1.Code k1).B)))))
        (M.ret out1)) (0, ([] : List Arr2Int))
def r19_Members (to1 : List Int) (s1 : Int) : M (List Int) :=
  M.loop (fun again1 ((t1, out1) : Int × List Int) =>
      M.bif (decide (t1 < (to1.length : Int)))
        (M.chk ((0 : Int) ≤ t1 ∧ t1 < (to1.length : Int)) <|
         M.bif (decide ((atD to1 t1) = s1))
           (M.chk (out1.length + ([t1] : List Int).length < 1000000000000) <|
            M.chk (okI (t1 + 1)) <|
            again1 ((t1 + 1), (out1 ++ ([t1] : List Int))))
           (M.chk (okI (t1 + 1)) <|
            again1 ((t1 + 1), out1)))
        (M.ret out1)) (0, ([] : List Int))
def r19_apart (g1 : List (List Int)) (to1 : List Int) (a1 : Int) (b1 : Int) : M (Bool) :=
  M.call (r19_Members to1 a1) fun x1 =>
  M.call (r19_Members to1 b1) fun x2 =>
  M.loop (fun again1 (i1 : Int) =>
      M.bif (decide (i1 < (x1.length : Int)))
        (M.loop (fun again2 (k1 : Int) =>
             M.bif (decide (k1 < (x2.length : Int)))
               (M.chk ((0 : Int) ≤ i1 ∧ i1 < (x1.length : Int)) <|
                M.chk ((0 : Int) ≤ (atD x1 i1) ∧ (atD x1 i1) < (g1.length : Int)) <|
                M.chk ((0 : Int) ≤ k1 ∧ k1 < (x2.length : Int)) <|
                M.call (r04_Has (atD g1 (atD x1 i1)) (atD x2 k1)) fun x3 =>
                M.bif x3
                  (M.ret false)
                  (M.chk (okI (k1 + 1)) <|
                   again2 (k1 + 1)))
               (M.chk (okI (i1 + 1)) <|
                again1 (i1 + 1))) 0)
        (M.ret true)) 0
def r19_Classes (f1 : AFunc) (g1 : List (List Int)) : M (List Int) :=
  M.loop (fun again1 ((s1, to1) : Int × List Int) =>
      M.bif (decide (s1 < (f1.Slots.length : Int)))
        (M.chk (to1.length + ([s1] : List Int).length < 1000000000000) <|
         M.chk (okI (s1 + 1)) <|
         again1 ((s1 + 1), (to1 ++ ([s1] : List Int))))
        (M.call (r18_Moves f1) fun x1 =>
         M.loop (fun again2 ((i1, to2) : Int × List Int) =>
             M.bif (decide (i1 < (x1.length : Int)))
               (M.chk ((0 : Int) ≤ i1 ∧ i1 < (x1.length : Int)) <|
                M.chk ((0 : Int) ≤ (atD x1 i1).e0 ∧ (atD x1 i1).e0 < (to2.length : Int)) <|
                M.chk ((0 : Int) ≤ i1 ∧ i1 < (x1.length : Int)) <|
                M.chk ((0 : Int) ≤ (atD x1 i1).e1 ∧ (atD x1 i1).e1 < (to2.length : Int)) <|
                M.bif (decide ((atD to2 ((atD x1 i1).e0)) = (atD to2 ((atD x1 i1).e1))))
                  (M.chk (okI (i1 + 1)) <|
                   again2 ((i1 + 1), to2))
                  (M.call (r19_apart g1 to2 (atD to2 ((atD x1 i1).e0)) (atD to2 ((atD x1 i1).e1))) fun x2 =>
                   M.bif (!x2)
                     (M.chk (okI (i1 + 1)) <|
                      again2 ((i1 + 1), to2))
                     (M.loop (fun again3 ((s2, to3) : Int × List Int) =>
                          M.bif (decide (s2 < (to3.length : Int)))
                            (M.chk ((0 : Int) ≤ s2 ∧ s2 < (to3.length : Int)) <|
                             M.bif (decide ((atD to3 s2) = (atD to2 ((atD x1 i1).e0))))
                               (M.chk ((0 : Int) ≤ s2 ∧ s2 < (to3.length : Int)) <|
                                M.chk (okI (s2 + 1)) <|
                                again3 ((s2 + 1), (setD to3 s2 (min (atD to2 ((atD x1 i1).e0)) (atD to2 ((atD x1 i1).e1))))))
                               (M.chk ((0 : Int) ≤ s2 ∧ s2 < (to3.length : Int)) <|
                                M.bif (decide ((atD to3 s2) = (atD to2 ((atD x1 i1).e1))))
                                  (M.chk ((0 : Int) ≤ s2 ∧ s2 < (to3.length : Int)) <|
                                   M.chk (okI (s2 + 1)) <|
                                   again3 ((s2 + 1), (setD to3 s2 (min (atD to2 ((atD x1 i1).e0)) (atD to2 ((atD x1 i1).e1))))))
                                  (M.chk (okI (s2 + 1)) <|
                                   again3 ((s2 + 1), to3))))
                            (M.chk (okI (i1 + 1)) <|
                             again2 ((i1 + 1), to3))) (0, to2))))
               (M.ret to2)) (0, to1))) (0, ([] : List Int))
def r20_dead (f1 : AFunc) (l1 : ALive) (k1 : Int) : M (Bool) :=
  M.chk ((0 : Int) ≤ k1 ∧ k1 < (f1.Code.length : Int)) <|
  M.call (r15_Defines (atD f1.Code k1)) fun x1 =>
  M.bif x1.2
    (M.chk ((0 : Int) ≤ k1 ∧ k1 < (l1.Out.length : Int)) <|
     M.call (r04_Has (atD l1.Out k1) x1.1) fun x2 =>
     M.ret (!x2))
    (M.ret false)
def r20_Keep (f1 : AFunc) (l1 : ALive) (to1 : List Int) : M (List Bool) :=
  M.loop (fun again1 ((k1, out1) : Int × List Bool) =>
      M.bif (decide (k1 < (f1.Code.length : Int)))
        (M.chk ((0 : Int) ≤ k1 ∧ k1 < (f1.Code.length : Int)) <|
         M.call (r20_dead f1 l1 k1) fun x1 =>
         M.bif (!x1)
           (M.bif (decide (((atD f1.Code k1).Op) = 17))
              (M.chk ((0 : Int) ≤ (atD f1.Code k1).A ∧ (atD f1.Code k1).A < (to1.length : Int)) <|
               M.chk ((0 : Int) ≤ (atD f1.Code k1).B ∧ (atD f1.Code k1).B < (to1.length : Int)) <|
               M.chk (out1.length + ([(!(decide ((atD to1 ((atD f1.Code k1).A)) = (atD to1 ((atD f1.Code k1).B)))))] : List Bool).length < 1000000000000) <|
               M.chk (okI (k1 + 1)) <|
               again1 ((k1 + 1), (out1 ++ ([(!(decide ((atD to1 ((atD f1.Code k1).A)) = (atD to1 ((atD f1.Code k1).B)))))] : List Bool))))
              (M.chk (out1.length + ([(!false)] : List Bool).length < 1000000000000) <|
               M.chk (okI (k1 + 1)) <|
               again1 ((k1 + 1), (out1 ++ ([(!false)] : List Bool)))))
           (M.chk (out1.length + ([false] : List Bool).length < 1000000000000) <|
            M.chk (okI (k1 + 1)) <|
            again1 ((k1 + 1), (out1 ++ ([false] : List Bool)))))
        (M.ret out1)) (0, ([] : List Bool))
def r19_Valid (f1 : AFunc) (to1 : List Int) : M (Bool) :=
  M.bif (!decide ((to1.length : Int) = (f1.Slots.length : Int)))
    (M.ret false)
    (M.loop (fun again1 (s1 : Int) =>
         M.bif (decide (s1 < (to1.length : Int)))
           (M.chk ((0 : Int) ≤ s1 ∧ s1 < (to1.length : Int)) <|
            M.bif (decide ((atD to1 s1) < 0))
              (M.ret false)
              (M.chk ((0 : Int) ≤ s1 ∧ s1 < (to1.length : Int)) <|
               M.bif (decide ((to1.length : Int) ≤ (atD to1 s1)))
                 (M.ret false)
                 (M.chk (okI (s1 + 1)) <|
                  again1 (s1 + 1))))
           (M.loop (fun again2 (s2 : Int) =>
                M.bif (decide (s2 < (to1.length : Int)))
                  (M.chk ((0 : Int) ≤ s2 ∧ s2 < (to1.length : Int)) <|
                   M.chk ((0 : Int) ≤ (atD to1 s2) ∧ (atD to1 s2) < (f1.Slots.length : Int)) <|
                   M.chk ((0 : Int) ≤ s2 ∧ s2 < (f1.Slots.length : Int)) <|
                   M.bif (!decide (((atD f1.Slots (atD to1 s2)).Size) = ((atD f1.Slots s2).Size)))
                     (M.ret false)
                     (M.chk ((0 : Int) ≤ s2 ∧ s2 < (to1.length : Int)) <|
                      M.chk ((0 : Int) ≤ (atD to1 s2) ∧ (atD to1 s2) < (to1.length : Int)) <|
                      M.chk ((0 : Int) ≤ s2 ∧ s2 < (to1.length : Int)) <|
                      M.bif (!decide ((atD to1 (atD to1 s2)) = (atD to1 s2)))
                        (M.ret false)
                        (M.chk (okI (s2 + 1)) <|
                         again2 (s2 + 1))))
                  (M.ret true)) 0)) 0)
def r21_Check (f1 : AFunc) (r1 : ARename) : M (Int) :=
  M.call (r19_Valid f1 r1.To) fun x1 =>
  M.bif (!x1)
    (M.ret 12)
    (M.bif (!decide ((r1.Keep.length : Int) = (f1.Code.length : Int)))
       (M.ret 12)
       (M.loop (fun again1 (k1 : Int) =>
            M.bif (decide (k1 < (f1.Code.length : Int)))
              (M.chk ((0 : Int) ≤ k1 ∧ k1 < (r1.Keep.length : Int)) <|
               M.bif (!(atD r1.Keep k1))
                 (M.chk ((0 : Int) ≤ k1 ∧ k1 < (f1.Code.length : Int)) <|
                  M.call (r15_Removable (atD f1.Code k1)) fun x2 =>
                  M.bif (!x2)
                    (M.ret 12)
                    (M.chk (okI (k1 + 1)) <|
                     again1 (k1 + 1)))
                 (M.chk (okI (k1 + 1)) <|
                  again1 (k1 + 1)))
              (M.ret 0)) 0))
def r15_renamed (s1 : Int) (to1 : List Int) : M (Int) :=
  M.bif (decide (s1 < 0))
    (M.ret s1)
    (M.bif (decide ((to1.length : Int) ≤ s1))
       (M.ret s1)
       (M.chk ((0 : Int) ≤ s1 ∧ s1 < (to1.length : Int)) <|
        M.ret (atD to1 s1)))
def r15_Renamed (x1 : AInstr) (to1 : List Int) : M (AInstr) :=
  M.bif (decide (x1.Op = 15))
    (M.call (r15_renamed x1.B to1) fun x2 =>
     M.ret (⟨x1.Op, x1.A, x2, x1.C, x1.Imm⟩ : AInstr))
    (M.bif (decide (x1.Op = 16))
       (M.call (r15_renamed x1.A to1) fun x3 =>
        M.ret (⟨x1.Op, x3, x1.B, x1.C, x1.Imm⟩ : AInstr))
       (M.bif (decide (x1.Op = 17))
          (M.call (r15_renamed x1.A to1) fun x4 =>
           M.call (r15_renamed x1.B to1) fun x5 =>
           M.ret (⟨x1.Op, x4, x5, x1.C, x1.Imm⟩ : AInstr))
          (M.ret x1)))
def r21_Used (f1 : AFunc) (r1 : ARename) : M (List Int) :=
  M.loop (fun again1 ((out1, k1) : List Int × Int) =>
      M.bif (decide (k1 < (f1.Code.length : Int)))
        (M.bif (decide (k1 < (r1.Keep.length : Int)))
           (M.chk ((0 : Int) ≤ k1 ∧ k1 < (r1.Keep.length : Int)) <|
            M.bif (!(atD r1.Keep k1))
              (M.chk (okI (k1 + 1)) <|
               again1 (out1, (k1 + 1)))
              (M.chk ((0 : Int) ≤ k1 ∧ k1 < (f1.Code.length : Int)) <|
               M.call (r15_Renamed (atD f1.Code k1) r1.To) fun x1 =>
               M.call (r15_Uses x1) fun x2 =>
               M.call (r04_Union out1 x2) fun x3 =>
               M.call (r15_Defines x1) fun x4 =>
               M.bif x4.2
                 (M.call (r04_Add x3 x4.1) fun x5 =>
                  M.chk (okI (k1 + 1)) <|
                  again1 (x5, (k1 + 1)))
                 (M.chk (okI (k1 + 1)) <|
                  again1 (x3, (k1 + 1)))))
           (M.ret out1))
        (M.ret out1)) (([] : List Int), 0)
def r21_numbers (r1 : ARename) (used1 : List Int) : M (List Int) :=
  M.loop (fun again1 ((s1, out1) : Int × List Int) =>
      M.bif (decide (s1 < (r1.To.length : Int)))
        (M.loop (fun again2 ((n2, i1) : Int × Int) =>
             M.bif (decide (i1 < (used1.length : Int)))
               (M.chk ((0 : Int) ≤ i1 ∧ i1 < (used1.length : Int)) <|
                M.chk ((0 : Int) ≤ s1 ∧ s1 < (r1.To.length : Int)) <|
                M.bif (decide ((atD used1 i1) = (atD r1.To s1)))
                  (M.chk (okI (i1 + 1)) <|
                   again2 (i1, (i1 + 1)))
                  (M.chk (okI (i1 + 1)) <|
                   again2 (n2, (i1 + 1))))
               (M.chk (out1.length + ([n2] : List Int).length < 1000000000000) <|
                M.chk (okI (s1 + 1)) <|
                again1 ((s1 + 1), (out1 ++ ([n2] : List Int))))) (0, 0))
        (M.ret out1)) (0, ([] : List Int))
def r21_Places (r1 : ARename) : M (List Int) :=
  M.loop (fun again1 ((n1, k1, out1) : Int × Int × List Int) =>
      M.bif (decide (k1 < (r1.Keep.length : Int)))
        (M.chk (out1.length + ([n1] : List Int).length < 1000000000000) <|
         M.chk ((0 : Int) ≤ k1 ∧ k1 < (r1.Keep.length : Int)) <|
         M.bif (atD r1.Keep k1)
           (M.chk (okI (n1 + 1)) <|
            M.chk (okI (k1 + 1)) <|
            again1 ((n1 + 1), (k1 + 1), (out1 ++ ([n1] : List Int))))
           (M.chk (okI (k1 + 1)) <|
            again1 (n1, (k1 + 1), (out1 ++ ([n1] : List Int)))))
        (M.ret out1)) (0, 0, ([] : List Int))
def r21_Apply (f1 : AFunc) (r1 : ARename) : M (AFunc × Int) :=
  M.call (r21_Check f1 r1) fun x1 =>
  M.bif (!decide (x1 = 0))
    (M.ret ((⟨0, ([] : List ASlot), ([] : List AInstr)⟩ : AFunc), x1))
    (M.call (r21_Used f1 r1) fun x2 =>
     M.loop (fun again1 ((i1, Slots1) : Int × List ASlot) =>
         M.bif (decide (i1 < (x2.length : Int)))
           (M.chk ((0 : Int) ≤ i1 ∧ i1 < (x2.length : Int)) <|
            M.chk ((0 : Int) ≤ (atD x2 i1) ∧ (atD x2 i1) < (f1.Slots.length : Int)) <|
            M.chk ((0 : Int) ≤ i1 ∧ i1 < (x2.length : Int)) <|
            M.call (r19_Members r1.To (atD x2 i1)) fun x3 =>
            M.loop (fun again2 ((k1, s1) : Int × ASlot) =>
                M.bif (decide (k1 < (x3.length : Int)))
                  (M.chk ((0 : Int) ≤ k1 ∧ k1 < (x3.length : Int)) <|
                   M.chk ((0 : Int) ≤ (atD x3 k1) ∧ (atD x3 k1) < (f1.Slots.length : Int)) <|
                   M.chk (okI (k1 + 1)) <|
                   again2 ((k1 + 1), (⟨s1.Size, (max s1.Align ((atD f1.Slots (atD x3 k1)).Align))⟩ : ASlot)))
                  (M.chk (Slots1.length < 1000000000000) <|
                   M.chk (Slots1.length + ([s1] : List ASlot).length < 1000000000000) <|
                   M.chk (okI (i1 + 1)) <|
                   again1 ((i1 + 1), (Slots1 ++ ([s1] : List ASlot))))) (0, (atD f1.Slots (atD x2 i1))))
           (M.call (r21_numbers r1 x2) fun x4 =>
            M.call (r21_Places r1) fun x5 =>
            M.loop (fun again3 ((k2, Code1) : Int × List AInstr) =>
                M.bif (decide (k2 < (f1.Code.length : Int)))
                  (M.chk ((0 : Int) ≤ k2 ∧ k2 < (r1.Keep.length : Int)) <|
                   M.bif (!(atD r1.Keep k2))
                     (M.chk (okI (k2 + 1)) <|
                      again3 ((k2 + 1), Code1))
                     (M.chk ((0 : Int) ≤ k2 ∧ k2 < (f1.Code.length : Int)) <|
                      M.call (r15_Renamed (atD f1.Code k2) x4) fun x6 =>
                      M.join (fun (x7 : AInstr) =>
                          M.chk (Code1.length < 1000000000000) <|
                          M.chk (Code1.length + ([x7] : List AInstr).length < 1000000000000) <|
                          M.chk (okI (k2 + 1)) <|
                          again3 ((k2 + 1), (Code1 ++ ([x7] : List AInstr)))) fun k3 =>
                      M.bif (decide (x6.Op = 20))
                        (M.chk ((0 : Int) ≤ x6.A ∧ x6.A < (x5.length : Int)) <|
                         k3 (⟨x6.Op, (atD x5 x6.A), x6.B, x6.C, x6.Imm⟩ : AInstr))
                        (M.bif (decide (x6.Op = 21))
                           (M.chk ((0 : Int) ≤ x6.B ∧ x6.B < (x5.length : Int)) <|
                            k3 (⟨x6.Op, x6.A, (atD x5 x6.B), x6.C, x6.Imm⟩ : AInstr))
                           (k3 x6))))
                  (M.ret ((⟨f1.Params, Slots1, Code1⟩ : AFunc), 0))) (0, ([] : List AInstr)))) (0, ([] : List ASlot)))
def r18_Strict (f1 : AFunc) (l1 : ALive) : M (List (List Int) × Int) :=
  M.call (r18_graph f1 l1 true) fun x1 =>
  M.ret (x1.1, x1.2)
def r18_Check (g1 : List (List Int)) (n1 : Int) : M (Bool) :=
  M.bif (!decide ((g1.length : Int) = n1))
    (M.ret false)
    (M.loop (fun again1 (x1 : Int) =>
         M.bif (decide (x1 < n1))
           (M.chk ((0 : Int) ≤ x1 ∧ x1 < (g1.length : Int)) <|
            M.call (r04_Check (atD g1 x1)) fun x2 =>
            M.bif (!x2)
              (M.ret false)
              (M.chk ((0 : Int) ≤ x1 ∧ x1 < (g1.length : Int)) <|
               M.call (r04_Has (atD g1 x1) x1) fun x3 =>
               M.bif x3
                 (M.ret false)
                 (M.loop (fun again2 (i1 : Int) =>
                      M.chk ((0 : Int) ≤ x1 ∧ x1 < (g1.length : Int)) <|
                      M.bif (decide (i1 < ((atD g1 x1).length : Int)))
                        (M.chk ((0 : Int) ≤ x1 ∧ x1 < (g1.length : Int)) <|
                         M.chk ((0 : Int) ≤ i1 ∧ i1 < ((atD g1 x1).length : Int)) <|
                         M.bif (decide (n1 ≤ (atD (atD g1 x1) i1)))
                           (M.ret false)
                           (M.chk ((0 : Int) ≤ (atD (atD g1 x1) i1) ∧ (atD (atD g1 x1) i1) < (g1.length : Int)) <|
                            M.call (r04_Has (atD g1 (atD (atD g1 x1) i1)) x1) fun x4 =>
                            M.bif (!x4)
                              (M.ret false)
                              (M.chk (okI (i1 + 1)) <|
                               again2 (i1 + 1))))
                        (M.chk (okI (x1 + 1)) <|
                         again1 (x1 + 1))) 0)))
           (M.ret true)) 0)
def r23_before (a1 : ASlot) (b1 : ASlot) : M (Bool) :=
  M.bif (decide (b1.Align < a1.Align))
    (M.ret true)
    (M.bif (decide (a1.Align = b1.Align))
       (M.ret (decide (b1.Size < a1.Size)))
       (M.ret false))
def r23_Order (s1 : List ASlot) : M (List Int) :=
  M.loop (fun again1 ((i1, out1) : Int × List Int) =>
      M.bif (decide (i1 < (s1.length : Int)))
        (M.join (fun (k1 : Int) =>
             M.chk ((0 : Int) ≤ 0 ∧ 0 ≤ k1 ∧ k1 ≤ (out1.length : Int)) <|
             M.chk ((sliceD out1 0 k1).length < 1000000000000) <|
             M.chk ((sliceD out1 0 k1).length + ([i1] : List Int).length < 1000000000000) <|
             M.chk ((0 : Int) ≤ k1 ∧ k1 ≤ (out1.length : Int) ∧ (out1.length : Int) ≤ (out1.length : Int)) <|
             M.chk (((sliceD out1 0 k1) ++ ([i1] : List Int)).length + (sliceD out1 k1 (out1.length : Int)).length < 1000000000000) <|
             M.chk (okI (i1 + 1)) <|
             again1 ((i1 + 1), (((sliceD out1 0 k1) ++ ([i1] : List Int)) ++ (sliceD out1 k1 (out1.length : Int))))) fun k2 =>
         M.loop (fun again2 (k3 : Int) =>
             M.bif (decide (0 < k3))
               (M.chk ((0 : Int) ≤ i1 ∧ i1 < (s1.length : Int)) <|
                M.chk (okI (k3 - 1)) <|
                M.chk ((0 : Int) ≤ (k3 - 1) ∧ (k3 - 1) < (out1.length : Int)) <|
                M.chk ((0 : Int) ≤ (atD out1 (k3 - 1)) ∧ (atD out1 (k3 - 1)) < (s1.length : Int)) <|
                M.call (r23_before (atD s1 i1) (atD s1 (atD out1 (k3 - 1)))) fun x1 =>
                M.bif x1
                  (M.chk (okI (k3 - 1)) <|
                   again2 (k3 - 1))
                  (k2 k3))
               (k2 k3)) (out1.length : Int))
        (M.ret out1)) (0, ([] : List Int))
def r03_Right (a1 : AInterval) : M (Bool) :=
  M.call (r03_Bound a1.Off) fun x1 =>
  M.bif x1
    (M.call (r03_Bound a1.Size) fun x2 =>
     M.bif x2
       (M.chk (okI (a1.Off + a1.Size)) <|
        M.ret (decide ((a1.Off + a1.Size) ≤ 2147483647)))
       (M.ret false))
    (M.ret false)
def r03_Overlap (a1 : AInterval) (b1 : AInterval) : M (Bool) :=
  M.call (r03_Right a1) fun x1 =>
  M.bif x1
    (M.call (r03_Right b1) fun x2 =>
     M.bif x2
       (M.bif (decide (0 < a1.Size))
          (M.bif (decide (0 < b1.Size))
             (M.chk (okI (b1.Off + b1.Size)) <|
              M.bif (decide (a1.Off < (b1.Off + b1.Size)))
                (M.chk (okI (a1.Off + a1.Size)) <|
                 M.ret (decide (b1.Off < (a1.Off + a1.Size))))
                (M.ret false))
             (M.ret false))
          (M.ret false))
       (M.ret false))
    (M.ret false)
def r03_free (used1 : List AInterval) (x1 : AInterval) : M (Bool) :=
  M.loop (fun again1 (i1 : Int) =>
      M.bif (decide (i1 < (used1.length : Int)))
        (M.chk ((0 : Int) ≤ i1 ∧ i1 < (used1.length : Int)) <|
         M.call (r03_Overlap (atD used1 i1) x1) fun x2 =>
         M.bif x2
           (M.ret false)
           (M.chk (okI (i1 + 1)) <|
            again1 (i1 + 1)))
        (M.ret true)) 0
def r03_Fit (used1 : List AInterval) (from1 : Int) (size1 : Int) (align1 : Int) : M (Int × Int) :=
  M.call (r03_Bound from1) fun x1 =>
  M.bif (!x1)
    (M.ret (0, 4))
    (M.call (r03_Bound size1) fun x2 =>
     M.bif (!x2)
       (M.ret (0, 4))
       (M.call (r03_Power align1) fun x3 =>
        M.bif (!x3)
          (M.ret (0, 4))
          (M.loop (fun again1 (i1 : Int) =>
               M.bif (decide (i1 < (used1.length : Int)))
                 (M.chk ((0 : Int) ≤ i1 ∧ i1 < (used1.length : Int)) <|
                  M.call (r03_Right (atD used1 i1)) fun x4 =>
                  M.bif (!x4)
                    (M.ret (0, 4))
                    (M.chk (okI (i1 + 1)) <|
                     again1 (i1 + 1)))
                 (M.loop (fun again2 ((best1, found1, i2) : Int × Bool × Int) =>
                      M.bif (decide (i2 < (used1.length : Int)))
                        (M.join (fun (at1 : Int) =>
                             M.call (r03_Up at1 align1) fun x5 =>
                             M.bif (decide (x5.2 = 0))
                               (M.call (r03_Right (⟨x5.1, size1⟩ : AInterval)) fun x6 =>
                                M.bif x6
                                  (M.call (r03_free used1 (⟨x5.1, size1⟩ : AInterval)) fun x7 =>
                                   M.bif x7
                                     (M.bif (!found1)
                                        (M.chk (okI (i2 + 1)) <|
                                         again2 (x5.1, true, (i2 + 1)))
                                        (M.bif (decide (x5.1 < best1))
                                           (M.chk (okI (i2 + 1)) <|
                                            again2 (x5.1, true, (i2 + 1)))
                                           (M.chk (okI (i2 + 1)) <|
                                            again2 (best1, found1, (i2 + 1)))))
                                     (M.chk (okI (i2 + 1)) <|
                                      again2 (best1, found1, (i2 + 1))))
                                  (M.chk (okI (i2 + 1)) <|
                                   again2 (best1, found1, (i2 + 1))))
                               (M.chk (okI (i2 + 1)) <|
                                again2 (best1, found1, (i2 + 1)))) fun k1 =>
                         M.bif (decide (0 ≤ i2))
                           (M.chk ((0 : Int) ≤ i2 ∧ i2 < (used1.length : Int)) <|
                            M.chk ((0 : Int) ≤ i2 ∧ i2 < (used1.length : Int)) <|
                            M.chk (okI (((atD used1 i2).Off) + ((atD used1 i2).Size))) <|
                            k1 (max from1 (((atD used1 i2).Off) + ((atD used1 i2).Size))))
                           (k1 from1))
                        (M.bif (!found1)
                           (M.ret (0, 9))
                           (M.ret (best1, 0)))) (0, false, (-1)))) 0)))
def r23_Assign (s1 : List ASlot) (g1 : List (List Int)) (from1 : Int) : M (List Int × Int) :=
  M.call (r03_Slots s1) fun x1 =>
  M.bif (!decide (x1 = 0))
    (M.ret (([] : List Int), x1))
    (M.call (r18_Check g1 (s1.length : Int)) fun x2 =>
     M.bif (!x2)
       (M.ret (([] : List Int), 4))
       (M.call (r03_Bound from1) fun x3 =>
        M.bif (!x3)
          (M.ret (([] : List Int), 4))
          (M.chk ((0 : Int) ≤ (s1.length : Int) ∧ (s1.length : Int) < 1000000000000) <|
           M.chk ((0 : Int) ≤ (s1.length : Int) ∧ (s1.length : Int) < 1000000000000) <|
           M.call (r23_Order s1) fun x4 =>
           M.loop (fun again1 ((i1, off1, done1) : Int × List Int × List Bool) =>
               M.bif (decide (i1 < (x4.length : Int)))
                 (M.chk ((0 : Int) ≤ i1 ∧ i1 < (x4.length : Int)) <|
                  M.loop (fun again2 ((y1, used1) : Int × List AInterval) =>
                      M.bif (decide (y1 < (s1.length : Int)))
                        (M.chk ((0 : Int) ≤ y1 ∧ y1 < (done1.length : Int)) <|
                         M.bif (atD done1 y1)
                           (M.chk ((0 : Int) ≤ (atD x4 i1) ∧ (atD x4 i1) < (g1.length : Int)) <|
                            M.call (r04_Has (atD g1 (atD x4 i1)) y1) fun x5 =>
                            M.bif x5
                              (M.chk ((0 : Int) ≤ y1 ∧ y1 < (off1.length : Int)) <|
                               M.chk ((0 : Int) ≤ y1 ∧ y1 < (s1.length : Int)) <|
                               M.chk (used1.length + ([(⟨(atD off1 y1), (atD s1 y1).Size⟩ : AInterval)] : List AInterval).length < 1000000000000) <|
                               M.chk (okI (y1 + 1)) <|
                               again2 ((y1 + 1), (used1 ++ ([(⟨(atD off1 y1), (atD s1 y1).Size⟩ : AInterval)] : List AInterval))))
                              (M.chk (okI (y1 + 1)) <|
                               again2 ((y1 + 1), used1)))
                           (M.chk (okI (y1 + 1)) <|
                            again2 ((y1 + 1), used1)))
                        (M.chk ((0 : Int) ≤ (atD x4 i1) ∧ (atD x4 i1) < (s1.length : Int)) <|
                         M.chk ((0 : Int) ≤ (atD x4 i1) ∧ (atD x4 i1) < (s1.length : Int)) <|
                         M.call (r03_Fit used1 from1 ((atD s1 (atD x4 i1)).Size) ((atD s1 (atD x4 i1)).Align)) fun x6 =>
                         M.bif (!decide (x6.2 = 0))
                           (M.ret (([] : List Int), x6.2))
                           (M.chk ((0 : Int) ≤ (atD x4 i1) ∧ (atD x4 i1) < (off1.length : Int)) <|
                            M.chk ((0 : Int) ≤ (atD x4 i1) ∧ (atD x4 i1) < (done1.length : Int)) <|
                            M.chk (okI (i1 + 1)) <|
                            again1 ((i1 + 1), (setD off1 (atD x4 i1) x6.1), (setD done1 (atD x4 i1) true))))) (0, ([] : List AInterval)))
                 (M.ret (off1, 0))) (0, (repD (s1.length : Int) : List Int), (repD (s1.length : Int) : List Bool)))))
def r21_Replace (p1 : AProgram) (i1 : Int) (f1 : AFunc) : M (AProgram) :=
  M.chk (p1.Funcs.length < 1000000000000) <|
  M.chk ((0 : Int) ≤ i1 ∧ i1 < (p1.Funcs.length : Int)) <|
  M.ret (⟨(setD p1.Funcs i1 f1)⟩ : AProgram)
def r31_Only (p1 : AProgram) (i1 : Int) (f1 : AFunc) : M (AProgram) :=
  M.call (r21_Replace p1 i1 f1) fun x1 =>
  M.ret x1
def r23_End (s1 : List ASlot) (off1 : List Int) : M (Int) :=
  M.loop (fun again1 ((n1, i1) : Int × Int) =>
      M.bif (decide (i1 < (s1.length : Int)))
        (M.bif (decide (i1 < (off1.length : Int)))
           (M.chk ((0 : Int) ≤ i1 ∧ i1 < (off1.length : Int)) <|
            M.chk ((0 : Int) ≤ i1 ∧ i1 < (s1.length : Int)) <|
            M.chk (okI ((atD off1 i1) + ((atD s1 i1).Size))) <|
            M.chk (okI (i1 + 1)) <|
            again1 ((max n1 ((atD off1 i1) + ((atD s1 i1).Size))), (i1 + 1)))
           (M.ret n1))
        (M.ret n1)) (0, 0)
def r24_Finish (p1 : AProgram) (i1 : Int) (align1 : Int) (off1 : List Int) : M (ALayout × Int) :=
  M.chk ((0 : Int) ≤ i1 ∧ i1 < (p1.Funcs.length : Int)) <|
  M.bif (!decide ((off1.length : Int) = (((atD p1.Funcs i1).Slots).length : Int)))
    (M.ret ((⟨0, 0, ([] : List Int)⟩ : ALayout), 13))
    (M.loop (fun again1 (k1 : Int) =>
         M.bif (decide (k1 < (((atD p1.Funcs i1).Slots).length : Int)))
           (M.chk ((0 : Int) ≤ k1 ∧ k1 < (off1.length : Int)) <|
            M.chk ((0 : Int) ≤ k1 ∧ k1 < (((atD p1.Funcs i1).Slots).length : Int)) <|
            M.call (r03_Right (⟨(atD off1 k1), (atD ((atD p1.Funcs i1).Slots) k1).Size⟩ : AInterval)) fun x1 =>
            M.bif (!x1)
              (M.ret ((⟨0, 0, ([] : List Int)⟩ : ALayout), 13))
              (M.chk (okI (k1 + 1)) <|
               again1 (k1 + 1)))
           (M.call (r24_Args p1 i1) fun x2 =>
            M.call (r23_End ((atD p1.Funcs i1).Slots) off1) fun x3 =>
            M.call (r03_Up (max x2 x3) align1) fun x4 =>
            M.bif (!decide (x4.2 = 0))
              (M.ret ((⟨0, 0, ([] : List Int)⟩ : ALayout), 9))
              (M.bif (decide (2147483519 < x4.1))
                 (M.ret ((⟨0, 0, ([] : List Int)⟩ : ALayout), 9))
                 (M.chk (off1.length < 1000000000000) <|
                  M.ret ((⟨x2, x4.1, off1⟩ : ALayout), 0))))) 0)
def r31_Propose (p1 : AProgram) (i1 : Int) : M (AProposal) :=
  M.chk ((0 : Int) ≤ i1 ∧ i1 < (p1.Funcs.length : Int)) <|
  M.call (r16_Solve (atD p1.Funcs i1)) fun x1 =>
  M.call (r18_Graph (atD p1.Funcs i1) x1) fun x2 =>
  M.call (r19_Classes (atD p1.Funcs i1) x2.1) fun x3 =>
  M.call (r20_Keep (atD p1.Funcs i1) x1 x3) fun x4 =>
  M.call (r21_Apply (atD p1.Funcs i1) (⟨x3, x4⟩ : ARename)) fun x5 =>
  M.call (r16_Solve x5.1) fun x6 =>
  M.call (r18_Strict x5.1 x6) fun x7 =>
  M.call (r24_Args p1 i1) fun x8 =>
  M.call (r23_Assign x5.1.Slots x7.1 x8) fun x9 =>
  M.bif (!decide (x9.2 = 0))
    (M.ret (⟨x1, (⟨x3, x4⟩ : ARename), x6, (⟨0, 0, ([] : List Int)⟩ : ALayout)⟩ : AProposal))
    (M.call (r31_Only p1 i1 x5.1) fun x10 =>
     M.call (r05_Align p1) fun x11 =>
     M.call (r24_Finish x10 i1 x11 x9.1) fun x12 =>
     M.ret (⟨x1, (⟨x3, x4⟩ : ARename), x6, x12.1⟩ : AProposal))
def draw_Int (c1 : DCodes) : M (Int × DCodes) :=
  M.call (draw_Next c1 12) fun x1 =>
  M.bif (decide (x1.1 = 11))
    (M.call (draw_Next x1.2 (([9223372036854775807, (-9223372036854775808), 2147483648, 2147483647, (-1), 16777216, 33554432, 1048577, 512, 80] : List Int).length : Int)) fun x2 =>
     M.chk ((0 : Int) ≤ x2.1 ∧ x2.1 < (([9223372036854775807, (-9223372036854775808), 2147483648, 2147483647, (-1), 16777216, 33554432, 1048577, 512, 80] : List Int).length : Int)) <|
     M.ret ((atD ([9223372036854775807, (-9223372036854775808), 2147483648, 2147483647, (-1), 16777216, 33554432, 1048577, 512, 80] : List Int) x2.1), x2.2))
    (M.call (draw_Next x1.2 256) fun x3 =>
     M.call (draw_Next x3.2 7) fun x4 =>
     M.chk ((0 : Int) ≤ x4.1 ∧ x4.1 ≤ 64) <|
     M.chk ((0 : Int) ≤ x1.1 ∧ (0 : Int) < 9 ∧ x1.1 ≤ 9223372036854775807) <|
     M.chk (okI ((x3.1 / 2 ^ x4.1.toNat) - (x1.1 / 9))) <|
     M.ret (((x3.1 / 2 ^ x4.1.toNat) - (x1.1 / 9)), x4.2))
def draw_Layout (c1 : DCodes) (p1 : AProgram) (i1 : Int) (align1 : Int) : M (ALayout × DCodes) :=
  M.call (r24_Baseline p1 i1 align1) fun x1 =>
  M.join (fun ((c2, y1) : DCodes × ALayout) =>
      M.chk (y1.Off.length < 1000000000000) <|
      M.call (draw_Next c2 4) fun x2 =>
      M.loop (fun again1 ((n1, c3, Args1, Size1, own1) : Int × DCodes × Int × Int × List Int) =>
          M.bif (decide (0 < n1))
            (M.join (fun ((c4, Args2, Size2, own2) : DCodes × Int × Int × List Int) =>
                 M.chk (okI (n1 - 1)) <|
                 again1 ((n1 - 1), c4, Args2, Size2, own2)) fun k2 =>
             M.call (draw_Next c3 (max 1 (own1.length : Int))) fun x3 =>
             M.call (draw_Next x3.2 8) fun x4 =>
             M.join (fun (x5 : Bool) =>
                 M.bif x5
                   (M.bif (decide (x3.1 < (own1.length : Int)))
                      (M.call (draw_Next x4.2 6) fun x6 =>
                       M.chk (okI ((8 : Int) * x6.1)) <|
                       M.chk ((0 : Int) ≤ x3.1 ∧ x3.1 < (own1.length : Int)) <|
                       k2 (x6.2, Args1, Size1, (setD own1 x3.1 (IntKind.i64.wrap (Args1 + ((8 : Int) * x6.1))))))
                      (k2 (x4.2, Args1, Size1, own1)))
                   (M.join (fun (x7 : Bool) =>
                        M.bif x7
                          (M.bif (decide (x3.1 < (own1.length : Int)))
                             (M.call (draw_Next x4.2 (own1.length : Int)) fun x8 =>
                              M.chk ((0 : Int) ≤ x8.1 ∧ x8.1 < (own1.length : Int)) <|
                              M.chk ((0 : Int) ≤ x3.1 ∧ x3.1 < (own1.length : Int)) <|
                              k2 (x8.2, Args1, Size1, (setD own1 x3.1 (atD own1 x8.1))))
                             (k2 (x4.2, Args1, Size1, own1)))
                          (M.bif (decide (x4.1 = 5))
                             (M.call (draw_Next x4.2 4) fun x9 =>
                              M.chk (okI (x9.1 - 2)) <|
                              M.chk (okI ((16 : Int) * (x9.1 - 2))) <|
                              k2 (x9.2, Args1, (IntKind.i64.wrap (Size1 + ((16 : Int) * (x9.1 - 2)))), own1))
                             (M.bif (decide (x4.1 = 6))
                                (M.bif (decide (x3.1 < (own1.length : Int)))
                                   (M.call (draw_Next x4.2 3) fun x10 =>
                                    M.bif (decide (x10.1 = 2))
                                      (M.call (draw_Int x10.2) fun x11 =>
                                       M.chk ((0 : Int) ≤ x3.1 ∧ x3.1 < (own1.length : Int)) <|
                                       k2 (x11.2, Args1, Size1, (setD own1 x3.1 x11.1)))
                                      (k2 (x10.2, Args1, Size1, own1)))
                                   (k2 (x4.2, Args1, Size1, own1)))
                                (M.bif (decide (x4.1 = 7))
                                   (M.call (draw_Next x4.2 8) fun x12 =>
                                    M.bif (decide (x12.1 = 5))
                                      (M.call (draw_Int x12.2) fun x13 =>
                                       k2 (x13.2, x13.1, Size1, own1))
                                      (M.bif (decide (x12.1 = 6))
                                         (M.call (draw_Int x12.2) fun x14 =>
                                          k2 (x14.2, Args1, x14.1, own1))
                                         (M.bif (decide (x12.1 = 7))
                                            (M.call (draw_Next x12.2 40) fun x15 =>
                                             M.chk (own1.length + ([x15.1] : List Int).length < 1000000000000) <|
                                             k2 (x15.2, Args1, Size1, (own1 ++ ([x15.1] : List Int))))
                                            (k2 (x12.2, Args1, Size1, own1)))))
                                   (k2 (x4.2, Args1, Size1, own1)))))) fun k4 =>
                    M.bif (decide (x4.1 = 3))
                      (k4 (decide (x4.1 = 3)))
                      (k4 (decide (x4.1 = 4))))) fun k3 =>
             M.bif (decide (x4.1 = 0))
               (k3 (decide (x4.1 = 0)))
               (M.bif (decide (x4.1 = 1))
                  (k3 (decide (x4.1 = 1)))
                  (k3 (decide (x4.1 = 2)))))
            (M.ret ((⟨Args1, Size1, own1⟩ : ALayout), c3))) (x2.1, x2.2, y1.Args, y1.Size, y1.Off)) fun k1 =>
  M.call (draw_Next c1 3) fun x16 =>
  M.bif (decide (x16.1 = 0))
    (M.call (r31_Propose p1 i1) fun x17 =>
     M.bif (decide ((x17.Layout.Off.length : Int) = (x1.1.Off.length : Int)))
       (k1 (x16.2, x17.Layout))
       (k1 (x16.2, x1.1)))
    (k1 (x16.2, x1.1))
def draw_Lives (c1 : DCodes) (f1 : AFunc) : M (ALive × DCodes) :=
  M.call (r16_Solve f1) fun x1 =>
  M.chk (x1.Out.length < 1000000000000) <|
  M.call (draw_Next c1 3) fun x2 =>
  M.loop (fun again1 ((n1, c2, own1) : Int × DCodes × List (List Int)) =>
      M.bif (decide (0 < n1))
        (M.bif (decide (0 < (f1.Slots.length : Int)))
           (M.call (draw_Next c2 (f1.Slots.length : Int)) fun x3 =>
            M.loop (fun again2 ((k1, own2) : Int × List (List Int)) =>
                M.bif (decide (k1 < (own2.length : Int)))
                  (M.chk ((0 : Int) ≤ k1 ∧ k1 < (own2.length : Int)) <|
                   M.call (r04_Add (atD own2 k1) x3.1) fun x4 =>
                   M.chk ((0 : Int) ≤ k1 ∧ k1 < (own2.length : Int)) <|
                   M.chk (okI (k1 + 1)) <|
                   again2 ((k1 + 1), (setD own2 k1 x4)))
                  (M.chk (okI (n1 - 1)) <|
                   again1 ((n1 - 1), x3.2, own2))) (0, own1))
           (M.ret ((⟨own1⟩ : ALive), c2)))
        (M.ret ((⟨own1⟩ : ALive), c2))) (x2.1, x2.2, x1.Out)
def r03_Inside (a1 : AInterval) (size1 : Int) : M (Bool) :=
  M.call (r03_Right a1) fun x1 =>
  M.bif x1
    (M.chk (okI (a1.Off + a1.Size)) <|
     M.ret (decide ((a1.Off + a1.Size) ≤ size1)))
    (M.ret false)
def r25_Shape (p1 : AProgram) (i1 : Int) (align1 : Int) (y1 : ALayout) : M (Int) :=
  M.call (r24_Baseline p1 i1 align1) fun x1 =>
  M.bif (!decide (x1.2 = 0))
    (M.ret x1.2)
    (M.chk ((0 : Int) ≤ i1 ∧ i1 < (p1.Funcs.length : Int)) <|
     M.call (r24_Args p1 i1) fun x2 =>
     M.bif (!decide (y1.Args = x2))
       (M.ret 13)
       (M.bif (!decide ((y1.Off.length : Int) = (((atD p1.Funcs i1).Slots).length : Int)))
          (M.ret 13)
          (M.loop (fun again1 (k1 : Int) =>
               M.bif (decide (k1 < (((atD p1.Funcs i1).Slots).length : Int)))
                 (M.chk ((0 : Int) ≤ k1 ∧ k1 < (y1.Off.length : Int)) <|
                  M.bif (decide ((atD y1.Off k1) < y1.Args))
                    (M.ret 13)
                    (M.chk ((0 : Int) ≤ k1 ∧ k1 < (y1.Off.length : Int)) <|
                     M.chk ((0 : Int) ≤ k1 ∧ k1 < (((atD p1.Funcs i1).Slots).length : Int)) <|
                     M.chk (((atD ((atD p1.Funcs i1).Slots) k1).Align) ≠ 0) <|
                     M.bif (!decide ((Int.tmod (atD y1.Off k1) ((atD ((atD p1.Funcs i1).Slots) k1).Align)) = 0))
                       (M.ret 13)
                       (M.chk ((0 : Int) ≤ k1 ∧ k1 < (y1.Off.length : Int)) <|
                        M.chk ((0 : Int) ≤ k1 ∧ k1 < (((atD p1.Funcs i1).Slots).length : Int)) <|
                        M.call (r03_Inside (⟨(atD y1.Off k1), (atD ((atD p1.Funcs i1).Slots) k1).Size⟩ : AInterval) y1.Size) fun x3 =>
                        M.bif (!x3)
                          (M.ret 13)
                          (M.chk (okI (k1 + 1)) <|
                           again1 (k1 + 1)))))
                 (M.chk (align1 ≠ 0) <|
                  M.bif (!decide ((Int.tmod y1.Size align1) = 0))
                    (M.ret 13)
                    (M.bif (decide (y1.Size < y1.Args))
                       (M.ret 13)
                       (M.bif (decide (x1.1.Size < y1.Size))
                          (M.ret 13)
                          (M.ret 0))))) 0)))
def r25_clash (f1 : AFunc) (l1 : ALive) (y1 : ALayout) (k1 : Int) : M (Int × Bool) :=
  M.chk ((0 : Int) ≤ k1 ∧ k1 < (f1.Code.length : Int)) <|
  M.call (r15_Defines (atD f1.Code k1)) fun x1 =>
  M.join (fun (_ : Unit) =>
      M.loop (fun again1 (i1 : Int) =>
          M.chk ((0 : Int) ≤ k1 ∧ k1 < (l1.Out.length : Int)) <|
          M.bif (decide (i1 < ((atD l1.Out k1).length : Int)))
            (M.chk ((0 : Int) ≤ k1 ∧ k1 < (l1.Out.length : Int)) <|
             M.chk ((0 : Int) ≤ i1 ∧ i1 < ((atD l1.Out k1).length : Int)) <|
             M.bif (!decide ((atD (atD l1.Out k1) i1) = x1.1))
               (M.chk ((0 : Int) ≤ (atD (atD l1.Out k1) i1) ∧ (atD (atD l1.Out k1) i1) < (y1.Off.length : Int)) <|
                M.chk ((0 : Int) ≤ (atD (atD l1.Out k1) i1) ∧ (atD (atD l1.Out k1) i1) < (f1.Slots.length : Int)) <|
                M.chk ((0 : Int) ≤ x1.1 ∧ x1.1 < (y1.Off.length : Int)) <|
                M.chk ((0 : Int) ≤ x1.1 ∧ x1.1 < (f1.Slots.length : Int)) <|
                M.call (r03_Overlap (⟨(atD y1.Off (atD (atD l1.Out k1) i1)), (atD f1.Slots (atD (atD l1.Out k1) i1)).Size⟩ : AInterval) (⟨(atD y1.Off x1.1), (atD f1.Slots x1.1).Size⟩ : AInterval)) fun x2 =>
                M.bif x2
                  (M.ret ((atD (atD l1.Out k1) i1), true))
                  (M.chk (okI (i1 + 1)) <|
                   again1 (i1 + 1)))
               (M.chk (okI (i1 + 1)) <|
                again1 (i1 + 1)))
            (M.ret (0, false))) 0) fun k2 =>
  M.bif (!x1.2)
    (M.ret (0, false))
    (M.bif (decide (((atD f1.Code k1).Op) = 17))
       (M.chk ((0 : Int) ≤ (atD f1.Code k1).A ∧ (atD f1.Code k1).A < (y1.Off.length : Int)) <|
        M.chk ((0 : Int) ≤ (atD f1.Code k1).B ∧ (atD f1.Code k1).B < (y1.Off.length : Int)) <|
        M.bif (decide ((atD y1.Off ((atD f1.Code k1).A)) = (atD y1.Off ((atD f1.Code k1).B))))
          (M.ret (0, false))
          (k2 ()))
       (k2 ()))
def r25_Clash (p1 : AProgram) (i1 : Int) (align1 : Int) (l1 : ALive) (y1 : ALayout) : M (Int × Int × Bool) :=
  M.call (r25_Shape p1 i1 align1 y1) fun x1 =>
  M.bif (!decide (x1 = 0))
    (M.ret (0, 0, false))
    (M.chk ((0 : Int) ≤ i1 ∧ i1 < (p1.Funcs.length : Int)) <|
     M.call (r17_Check (atD p1.Funcs i1) l1) fun x2 =>
     M.bif (!decide (x2 = 0))
       (M.ret (0, 0, false))
       (M.loop (fun again1 (k1 : Int) =>
            M.chk ((0 : Int) ≤ i1 ∧ i1 < (p1.Funcs.length : Int)) <|
            M.bif (decide (k1 < (((atD p1.Funcs i1).Code).length : Int)))
              (M.chk ((0 : Int) ≤ i1 ∧ i1 < (p1.Funcs.length : Int)) <|
               M.call (r25_clash (atD p1.Funcs i1) l1 y1 k1) fun x3 =>
               M.bif x3.2
                 (M.ret (k1, x3.1, true))
                 (M.chk (okI (k1 + 1)) <|
                  again1 (k1 + 1)))
              (M.ret (0, 0, false))) 0))
def r25_Check (p1 : AProgram) (i1 : Int) (align1 : Int) (l1 : ALive) (y1 : ALayout) : M (Int) :=
  M.call (r25_Shape p1 i1 align1 y1) fun x1 =>
  M.bif (!decide (x1 = 0))
    (M.ret x1)
    (M.chk ((0 : Int) ≤ i1 ∧ i1 < (p1.Funcs.length : Int)) <|
     M.call (r17_Check (atD p1.Funcs i1) l1) fun x2 =>
     M.bif (!decide (x2 = 0))
       (M.ret x2)
       (M.call (r25_Clash p1 i1 align1 l1 y1) fun x3 =>
        M.bif x3.2.2
          (M.ret 13)
          (M.ret 0)))
def law26_scene (codes1 : List Int) (odd1 : Bool) : M (AProgram × Int × List ALayout × DCodes) :=
  M.call (draw_New codes1 300) fun x1 =>
  M.call (draw_Program x1 3 12) fun x2 =>
  M.call (r05_Align x2.1) fun x3 =>
  M.loop (fun again1 ((i1, c1, l1) : Int × DCodes × List ALayout) =>
      M.bif (decide (i1 < (x2.1.Funcs.length : Int)))
        (M.call (r24_Baseline x2.1 i1 x3) fun x4 =>
         M.call (draw_Layout c1 x2.1 i1 x3) fun x5 =>
         M.bif odd1
           (M.chk (l1.length + ([x5.1] : List ALayout).length < 1000000000000) <|
            M.chk (okI (i1 + 1)) <|
            again1 ((i1 + 1), x5.2, (l1 ++ ([x5.1] : List ALayout))))
           (M.chk ((0 : Int) ≤ i1 ∧ i1 < (x2.1.Funcs.length : Int)) <|
            M.call (draw_Lives x5.2 (atD x2.1.Funcs i1)) fun x6 =>
            M.call (r25_Check x2.1 i1 x3 x6.1 x5.1) fun x7 =>
            M.bif (decide (x7 = 0))
              (M.chk (l1.length + ([x5.1] : List ALayout).length < 1000000000000) <|
               M.chk (okI (i1 + 1)) <|
               again1 ((i1 + 1), x6.2, (l1 ++ ([x5.1] : List ALayout))))
              (M.chk (l1.length + ([x4.1] : List ALayout).length < 1000000000000) <|
               M.chk (okI (i1 + 1)) <|
               again1 ((i1 + 1), x6.2, (l1 ++ ([x4.1] : List ALayout))))))
        (M.join (fun ((l2, c2) : List ALayout × DCodes) =>
             M.ret (x2.1, x3, l2, c2)) fun k1 =>
         M.bif odd1
           (M.call (draw_Next c1 6) fun x8 =>
            M.bif (decide (x8.1 = 5))
              (M.chk ((0 : Int) ≤ 1 ∧ 1 ≤ (l1.length : Int) ∧ (l1.length : Int) ≤ (l1.length : Int)) <|
               k1 ((sliceD l1 1 (l1.length : Int)), x8.2))
              (k1 (l1, x8.2)))
           (k1 (l1, c1)))) (0, x2.2, ([] : List ALayout))
def pack_Args (p1 : AProgram) (i1 : Int) : M (Int) :=
  M.chk ((0 : Int) ≤ i1 ∧ i1 < (p1.Funcs.length : Int)) <|
  M.loop (fun again1 ((n1, x1) : Int × Int) =>
      M.bif (decide (x1 < (((atD p1.Funcs i1).Code).length : Int)))
        (M.chk ((0 : Int) ≤ x1 ∧ x1 < (((atD p1.Funcs i1).Code).length : Int)) <|
         M.bif (decide (((atD ((atD p1.Funcs i1).Code) x1).Op) = 18))
           (M.chk (okI (((atD ((atD p1.Funcs i1).Code) x1).A) + 1)) <|
            M.chk (okI (x1 + 1)) <|
            again1 ((max n1 (((atD ((atD p1.Funcs i1).Code) x1).A) + 1)), (x1 + 1)))
           (M.bif (decide (((atD ((atD p1.Funcs i1).Code) x1).Op) = 22))
              (M.chk ((0 : Int) ≤ (atD ((atD p1.Funcs i1).Code) x1).A ∧ (atD ((atD p1.Funcs i1).Code) x1).A < (p1.Funcs.length : Int)) <|
               M.chk (okI (x1 + 1)) <|
               again1 ((max n1 ((atD p1.Funcs ((atD ((atD p1.Funcs i1).Code) x1).A)).Params)), (x1 + 1)))
              (M.chk (okI (x1 + 1)) <|
               again1 (n1, (x1 + 1)))))
        (M.chk (okI ((16 : Int) * n1)) <|
         M.ret ((16 : Int) * n1))) (0, 0)
def extent_bound (n1 : Int) : M (Bool) :=
  M.bif (decide (0 ≤ n1))
    (M.ret (decide (n1 ≤ 2147483647)))
    (M.ret false)
def extent_Power (n1 : Int) : M (Bool) :=
  M.bif (decide (1 ≤ n1))
    (M.bif (decide (n1 ≤ 16777216))
       (M.chk (okI (n1 - 1)) <|
        M.ret (decide ((Go.bits .and .i64 n1 (n1 - 1)) = 0)))
       (M.ret false))
    (M.ret false)
def extent_up (n1 : Int) (align1 : Int) : M (Int) :=
  M.chk (okI (n1 + align1)) <|
  M.chk (okI ((n1 + align1) - 1)) <|
  M.chk (okI (align1 - 1)) <|
  M.ret (Go.bits .andNot .i64 ((n1 + align1) - 1) (align1 - 1))
def extent_limited (n1 : Int) : M (Int × Int) :=
  M.bif (decide (2147483647 < n1))
    (M.ret (0, 9))
    (M.ret (n1, 0))
def extent_Up (n1 : Int) (align1 : Int) : M (Int × Int) :=
  M.call (extent_bound n1) fun x1 =>
  M.bif (!x1)
    (M.ret (0, 4))
    (M.call (extent_Power align1) fun x2 =>
     M.bif (!x2)
       (M.ret (0, 4))
       (M.call (extent_up n1 align1) fun x3 =>
        M.call (extent_limited x3) fun x4 =>
        M.ret (x4.1, x4.2)))
def extent_Add (x1 : Int) (y1 : Int) : M (Int × Int) :=
  M.call (extent_bound x1) fun x2 =>
  M.bif (!x2)
    (M.ret (0, 4))
    (M.call (extent_bound y1) fun x3 =>
     M.bif (!x3)
       (M.ret (0, 4))
       (M.chk (okI (x1 + y1)) <|
        M.call (extent_limited (x1 + y1)) fun x4 =>
        M.ret (x4.1, x4.2)))
def pack_sized (y1 : ALayout) (end1 : Int) (align1 : Int) : M (ALayout × Int) :=
  M.call (extent_Up end1 align1) fun x1 =>
  M.join (fun (e1 : Int) =>
      M.bif (!decide (e1 = 0))
        (M.ret ((⟨0, 0, ([] : List Int)⟩ : ALayout), 9))
        (M.ret ((⟨y1.Args, x1.1, y1.Off⟩ : ALayout), 0))) fun k1 =>
  M.bif (decide (x1.2 = 0))
    (M.call (extent_Add x1.1 128) fun x2 =>
     k1 x2.2)
    (k1 x1.2)
def pack_Baseline (p1 : AProgram) (i1 : Int) (align1 : Int) : M (ALayout × Int) :=
  M.call (pack_Args p1 i1) fun x1 =>
  M.chk ((0 : Int) ≤ i1 ∧ i1 < (p1.Funcs.length : Int)) <|
  M.loop (fun again1 ((end1, x2, own1) : Int × Int × List Int) =>
      M.bif (decide (x2 < (((atD p1.Funcs i1).Slots).length : Int)))
        (M.chk ((0 : Int) ≤ x2 ∧ x2 < (((atD p1.Funcs i1).Slots).length : Int)) <|
         M.call (extent_Up end1 ((atD ((atD p1.Funcs i1).Slots) x2).Align)) fun x3 =>
         M.join (fun ((end2, e1) : Int × Int) =>
             M.bif (!decide (e1 = 0))
               (M.ret ((⟨0, 0, ([] : List Int)⟩ : ALayout), 9))
               (M.chk (own1.length + ([x3.1] : List Int).length < 1000000000000) <|
                M.chk (okI (x2 + 1)) <|
                again1 (end2, (x2 + 1), (own1 ++ ([x3.1] : List Int))))) fun k1 =>
         M.bif (decide (x3.2 = 0))
           (M.call (extent_Add x3.1 ((atD ((atD p1.Funcs i1).Slots) x2).Size)) fun x4 =>
            k1 (x4.1, x4.2))
           (k1 (end1, x3.2)))
        (M.call (pack_sized (⟨x1, 0, own1⟩ : ALayout) end1 align1) fun x5 =>
         M.ret (x5.1, x5.2))) (x1, 0, ([] : List Int))
def layout_subject_interval (s1 : Layout_subject) (x1 : Int) : M (AInterval) :=
  M.chk ((0 : Int) ≤ x1 ∧ x1 < (s1.y.Off.length : Int)) <|
  M.chk ((0 : Int) ≤ x1 ∧ x1 < (s1.f.Slots.length : Int)) <|
  M.ret (⟨(atD s1.y.Off x1), (atD s1.f.Slots x1).Size⟩ : AInterval)
def extent_right (a1 : AInterval) : M (Bool) :=
  M.call (extent_bound a1.Off) fun x1 =>
  M.bif x1
    (M.call (extent_bound a1.Size) fun x2 =>
     M.bif x2
       (M.chk (okI (a1.Off + a1.Size)) <|
        M.ret (decide ((a1.Off + a1.Size) ≤ 2147483647)))
       (M.ret false))
    (M.ret false)
def extent_Inside (a1 : AInterval) (size1 : Int) : M (Bool) :=
  M.call (extent_right a1) fun x1 =>
  M.bif x1
    (M.chk (okI (a1.Off + a1.Size)) <|
     M.ret (decide ((a1.Off + a1.Size) ≤ size1)))
    (M.ret false)
def layout_subject_placed (s1 : Layout_subject) (x1 : Int) : M (Bool) :=
  M.chk ((0 : Int) ≤ x1 ∧ x1 < (s1.y.Off.length : Int)) <|
  M.bif (decide (s1.y.Args ≤ (atD s1.y.Off x1)))
    (M.chk ((0 : Int) ≤ x1 ∧ x1 < (s1.f.Slots.length : Int)) <|
     M.chk ((0 : Int) ≤ (atD s1.y.Off x1) ∧ (0 : Int) < ((atD s1.f.Slots x1).Align)) <|
     M.bif (decide (((atD s1.y.Off x1) % ((atD s1.f.Slots x1).Align)) = 0))
       (M.call (layout_subject_interval s1 x1) fun x2 =>
        M.call (extent_Inside x2 s1.y.Size) fun x3 =>
        M.ret x3)
       (M.ret false))
    (M.ret false)
def layout_subject_shape (s1 : Layout_subject) : M (Int) :=
  M.call (pack_Baseline s1.p s1.i s1.align) fun x1 =>
  M.bif (!decide (x1.2 = 0))
    (M.ret x1.2)
    (M.call (pack_Args s1.p s1.i) fun x2 =>
     M.bif (!decide (s1.y.Args = x2))
       (M.ret 13)
       (M.bif (!decide ((s1.y.Off.length : Int) = (s1.f.Slots.length : Int)))
          (M.ret 13)
          (M.loop (fun again1 (x3 : Int) =>
               M.bif (decide (x3 < (s1.f.Slots.length : Int)))
                 (M.call (layout_subject_placed s1 x3) fun x4 =>
                  M.bif (!x4)
                    (M.ret 13)
                    (M.chk (okI (x3 + 1)) <|
                     again1 (x3 + 1)))
                 (M.chk ((0 : Int) ≤ s1.y.Size ∧ (0 : Int) < s1.align) <|
                  M.bif (!decide ((s1.y.Size % s1.align) = 0))
                    (M.ret 13)
                    (M.bif (decide (s1.y.Size < s1.y.Args))
                       (M.ret 13)
                       (M.bif (decide (x1.1.Size < s1.y.Size))
                          (M.ret 13)
                          (M.ret 0))))) 0)))
def layout_Shape (p1 : AProgram) (i1 : Int) (align1 : Int) (y1 : ALayout) : M (Int) :=
  M.chk ((0 : Int) ≤ i1 ∧ i1 < (p1.Funcs.length : Int)) <|
  M.call (layout_subject_shape (⟨p1, i1, align1, (atD p1.Funcs i1), y1⟩ : Layout_subject)) fun x1 =>
  M.ret x1
def slices_Clone___api_Instr_api_Instr_ (s1 : List AInstr) : M (List AInstr) :=
  M.both (s1 = [])
    (M.ret ([] : List AInstr))
    (M.chk (([] : List AInstr).length + s1.length < 1000000000000) <|
     M.ret (([] : List AInstr) ++ s1))
def lower_Frame (p1 : AProgram) (i1 : Int) (y1 : ALayout) : M (AFrame) :=
  M.chk ((0 : Int) ≤ i1 ∧ i1 < (p1.Funcs.length : Int)) <|
  M.call (slices_Clone___api_Instr_api_Instr_ ((atD p1.Funcs i1).Code)) fun x1 =>
  M.call (lower_translations) fun x2 =>
  M.loop (fun again1 ((x3, x4) : Int × List AInstr) =>
      M.bif (decide (x3 < (x1.length : Int)))
        (M.join (fun (x5 : List AInstr) =>
             M.chk (okI (x3 + 1)) <|
             again1 ((x3 + 1), x5)) fun k1 =>
         M.chk ((0 : Int) ≤ x3 ∧ x3 < (x4.length : Int)) <|
         M.bif (decide (((atD x4 x3).Op) = 0))
           (M.call (lower_same (atD p1.Funcs i1) y1 (atD x4 x3)) fun x6 =>
            M.chk ((0 : Int) ≤ x3 ∧ x3 < (x4.length : Int)) <|
            k1 (setD x4 x3 x6))
           (M.bif (decide (((atD x4 x3).Op) = 1))
              (M.call (lower_same (atD p1.Funcs i1) y1 (atD x4 x3)) fun x7 =>
               M.chk ((0 : Int) ≤ x3 ∧ x3 < (x4.length : Int)) <|
               k1 (setD x4 x3 x7))
              (M.bif (decide (((atD x4 x3).Op) = 2))
                 (M.call (lower_same (atD p1.Funcs i1) y1 (atD x4 x3)) fun x8 =>
                  M.chk ((0 : Int) ≤ x3 ∧ x3 < (x4.length : Int)) <|
                  k1 (setD x4 x3 x8))
                 (M.bif (decide (((atD x4 x3).Op) = 3))
                    (M.call (lower_same (atD p1.Funcs i1) y1 (atD x4 x3)) fun x9 =>
                     M.chk ((0 : Int) ≤ x3 ∧ x3 < (x4.length : Int)) <|
                     k1 (setD x4 x3 x9))
                    (M.bif (decide (((atD x4 x3).Op) = 4))
                       (M.call (lower_same (atD p1.Funcs i1) y1 (atD x4 x3)) fun x10 =>
                        M.chk ((0 : Int) ≤ x3 ∧ x3 < (x4.length : Int)) <|
                        k1 (setD x4 x3 x10))
                       (M.bif (decide (((atD x4 x3).Op) = 5))
                          (M.call (lower_same (atD p1.Funcs i1) y1 (atD x4 x3)) fun x11 =>
                           M.chk ((0 : Int) ≤ x3 ∧ x3 < (x4.length : Int)) <|
                           k1 (setD x4 x3 x11))
                          (M.bif (decide (((atD x4 x3).Op) = 6))
                             (M.call (lower_same (atD p1.Funcs i1) y1 (atD x4 x3)) fun x12 =>
                              M.chk ((0 : Int) ≤ x3 ∧ x3 < (x4.length : Int)) <|
                              k1 (setD x4 x3 x12))
                             (M.bif (decide (((atD x4 x3).Op) = 7))
                                (M.call (lower_same (atD p1.Funcs i1) y1 (atD x4 x3)) fun x13 =>
                                 M.chk ((0 : Int) ≤ x3 ∧ x3 < (x4.length : Int)) <|
                                 k1 (setD x4 x3 x13))
                                (M.bif (decide (((atD x4 x3).Op) = 8))
                                   (M.call (lower_same (atD p1.Funcs i1) y1 (atD x4 x3)) fun x14 =>
                                    M.chk ((0 : Int) ≤ x3 ∧ x3 < (x4.length : Int)) <|
                                    k1 (setD x4 x3 x14))
                                   (M.bif (decide (((atD x4 x3).Op) = 9))
                                      (M.call (lower_same (atD p1.Funcs i1) y1 (atD x4 x3)) fun x15 =>
                                       M.chk ((0 : Int) ≤ x3 ∧ x3 < (x4.length : Int)) <|
                                       k1 (setD x4 x3 x15))
                                      (M.bif (decide (((atD x4 x3).Op) = 10))
                                         (M.call (lower_same (atD p1.Funcs i1) y1 (atD x4 x3)) fun x16 =>
                                          M.chk ((0 : Int) ≤ x3 ∧ x3 < (x4.length : Int)) <|
                                          k1 (setD x4 x3 x16))
                                         (M.bif (decide (((atD x4 x3).Op) = 11))
                                            (M.call (lower_same (atD p1.Funcs i1) y1 (atD x4 x3)) fun x17 =>
                                             M.chk ((0 : Int) ≤ x3 ∧ x3 < (x4.length : Int)) <|
                                             k1 (setD x4 x3 x17))
                                            (M.bif (decide (((atD x4 x3).Op) = 12))
                                               (M.call (lower_same (atD p1.Funcs i1) y1 (atD x4 x3)) fun x18 =>
                                                M.chk ((0 : Int) ≤ x3 ∧ x3 < (x4.length : Int)) <|
                                                k1 (setD x4 x3 x18))
                                               (M.bif (decide (((atD x4 x3).Op) = 13))
                                                  (M.call (lower_same (atD p1.Funcs i1) y1 (atD x4 x3)) fun x19 =>
                                                   M.chk ((0 : Int) ≤ x3 ∧ x3 < (x4.length : Int)) <|
                                                   k1 (setD x4 x3 x19))
                                                  (M.bif (decide (((atD x4 x3).Op) = 14))
                                                     (M.call (lower_same (atD p1.Funcs i1) y1 (atD x4 x3)) fun x20 =>
                                                      M.chk ((0 : Int) ≤ x3 ∧ x3 < (x4.length : Int)) <|
                                                      k1 (setD x4 x3 x20))
                                                     (M.bif (decide (((atD x4 x3).Op) = 15))
                                                        (M.call (lower_translations_1 (atD p1.Funcs i1) y1 (atD x4 x3)) fun x21 =>
                                                         M.chk ((0 : Int) ≤ x3 ∧ x3 < (x4.length : Int)) <|
                                                         k1 (setD x4 x3 x21))
                                                        (M.bif (decide (((atD x4 x3).Op) = 16))
                                                           (M.call (lower_translations_2 (atD p1.Funcs i1) y1 (atD x4 x3)) fun x22 =>
                                                            M.chk ((0 : Int) ≤ x3 ∧ x3 < (x4.length : Int)) <|
                                                            k1 (setD x4 x3 x22))
                                                           (M.bif (decide (((atD x4 x3).Op) = 17))
                                                              (M.call (lower_translations_3 (atD p1.Funcs i1) y1 (atD x4 x3)) fun x23 =>
                                                               M.chk ((0 : Int) ≤ x3 ∧ x3 < (x4.length : Int)) <|
                                                               k1 (setD x4 x3 x23))
                                                              (M.bif (decide (((atD x4 x3).Op) = 18))
                                                                 (M.call (lower_translations_4 (atD p1.Funcs i1) y1 (atD x4 x3)) fun x24 =>
                                                                  M.chk ((0 : Int) ≤ x3 ∧ x3 < (x4.length : Int)) <|
                                                                  k1 (setD x4 x3 x24))
                                                                 (M.bif (decide (((atD x4 x3).Op) = 19))
                                                                    (M.call (lower_translations_5 (atD p1.Funcs i1) y1 (atD x4 x3)) fun x25 =>
                                                                     M.chk ((0 : Int) ≤ x3 ∧ x3 < (x4.length : Int)) <|
                                                                     k1 (setD x4 x3 x25))
                                                                    (M.bif (decide (((atD x4 x3).Op) = 20))
                                                                       (M.call (lower_same (atD p1.Funcs i1) y1 (atD x4 x3)) fun x26 =>
                                                                        M.chk ((0 : Int) ≤ x3 ∧ x3 < (x4.length : Int)) <|
                                                                        k1 (setD x4 x3 x26))
                                                                       (M.bif (decide (((atD x4 x3).Op) = 21))
                                                                          (M.call (lower_same (atD p1.Funcs i1) y1 (atD x4 x3)) fun x27 =>
                                                                           M.chk ((0 : Int) ≤ x3 ∧ x3 < (x4.length : Int)) <|
                                                                           k1 (setD x4 x3 x27))
                                                                          (M.bif (decide (((atD x4 x3).Op) = 22))
                                                                             (M.call (lower_same (atD p1.Funcs i1) y1 (atD x4 x3)) fun x28 =>
                                                                              M.chk ((0 : Int) ≤ x3 ∧ x3 < (x4.length : Int)) <|
                                                                              k1 (setD x4 x3 x28))
                                                                             (M.bif (decide (((atD x4 x3).Op) = 23))
                                                                                (M.call (lower_same (atD p1.Funcs i1) y1 (atD x4 x3)) fun x29 =>
                                                                                 M.chk ((0 : Int) ≤ x3 ∧ x3 < (x4.length : Int)) <|
                                                                                 k1 (setD x4 x3 x29))
                                                                                (M.chk ((decide (((atD x4 x3).Op) = 24)) = true) <|
                                                                                 M.call (lower_same (atD p1.Funcs i1) y1 (atD x4 x3)) fun x30 =>
                                                                                 M.chk ((0 : Int) ≤ x3 ∧ x3 < (x4.length : Int)) <|
                                                                                 k1 (setD x4 x3 x30))))))))))))))))))))))))))
        (M.ret (⟨(atD p1.Funcs i1).Params, y1.Size, x4⟩ : AFrame))) (0, x1)
def lower_Target (p1 : AProgram) (align1 : Int) (l1 : List ALayout) : M (ATarget × Int) :=
  M.bif (!decide ((l1.length : Int) = (p1.Funcs.length : Int)))
    (M.ret ((⟨0, ([] : List AFrame)⟩ : ATarget), 13))
    (M.loop (fun again1 ((x1, own1) : Int × List AFrame) =>
         M.bif (decide (x1 < (l1.length : Int)))
           (M.chk ((0 : Int) ≤ x1 ∧ x1 < (l1.length : Int)) <|
            M.call (layout_Shape p1 x1 align1 (atD l1 x1)) fun x2 =>
            M.bif (!decide (x2 = 0))
              (M.ret ((⟨0, ([] : List AFrame)⟩ : ATarget), 13))
              (M.call (lower_Frame p1 x1 (atD l1 x1)) fun x3 =>
               M.chk (own1.length + ([x3] : List AFrame).length < 1000000000000) <|
               M.chk (okI (x1 + 1)) <|
               again1 ((x1 + 1), (own1 ++ ([x3] : List AFrame)))))
           (M.ret ((⟨align1, own1⟩ : ATarget), 0))) (0, ([] : List AFrame)))
def r10_within (k1 : Int) (n1 : Int) : M (Bool) :=
  M.bif (decide (0 ≤ k1))
    (M.ret (decide (k1 < n1)))
    (M.ret false)
def r10_shape (t1 : ATarget) (f1 : AFrame) : M (Bool) :=
  M.call (r03_Power t1.Align) fun x1 =>
  M.bif x1
    (M.bif (decide (0 ≤ f1.Params))
       (M.bif (decide (f1.Params ≤ 8))
          (M.bif (decide (0 ≤ f1.Size))
             (M.bif (decide (f1.Size ≤ 2147483519))
                (M.chk ((0 : Int) ≤ f1.Size ∧ (0 : Int) < t1.Align) <|
                 M.ret (decide ((f1.Size % t1.Align) = 0)))
                (M.ret false))
             (M.ret false))
          (M.ret false))
       (M.ret false))
    (M.ret false)
def r10_memory (op1 : Int) : M (Bool) :=
  M.bif (decide (op1 = 15))
    (M.ret true)
    (M.bif (decide (op1 = 16))
       (M.ret true)
       (M.ret (decide (op1 = 17))))
def r05_Operands (op1 : Int) : M (Bool × Bool × Bool × Bool) :=
  M.bif (decide (op1 = 0))
    (M.ret (true, false, false, true))
    (M.join (fun (x1 : Bool) =>
         M.bif x1
           (M.ret (true, true, false, false))
           (M.join (fun (x2 : Bool) =>
                M.bif x2
                  (M.ret (true, true, true, false))
                  (M.join (fun (x3 : Bool) =>
                       M.bif x3
                         (M.ret (true, false, false, false))
                         (M.bif (decide (op1 = 24))
                            (M.ret (false, false, false, true))
                            (M.ret (false, false, false, false)))) fun k3 =>
                   M.bif (decide (op1 = 13))
                     (k3 (decide (op1 = 13)))
                     (M.bif (decide (op1 = 14))
                        (k3 (decide (op1 = 14)))
                        (M.bif (decide (op1 = 20))
                           (k3 (decide (op1 = 20)))
                           (k3 (decide (op1 = 22))))))) fun k2 =>
            M.bif (decide (op1 = 2))
              (k2 (decide (op1 = 2)))
              (M.bif (decide (op1 = 3))
                 (k2 (decide (op1 = 3)))
                 (M.bif (decide (op1 = 4))
                    (k2 (decide (op1 = 4)))
                    (M.bif (decide (op1 = 5))
                       (k2 (decide (op1 = 5)))
                       (M.bif (decide (op1 = 6))
                          (k2 (decide (op1 = 6)))
                          (M.bif (decide (op1 = 7))
                             (k2 (decide (op1 = 7)))
                             (M.bif (decide (op1 = 8))
                                (k2 (decide (op1 = 8)))
                                (M.bif (decide (op1 = 9))
                                   (k2 (decide (op1 = 9)))
                                   (M.bif (decide (op1 = 10))
                                      (k2 (decide (op1 = 10)))
                                      (k2 (decide (op1 = 11))))))))))))) fun k1 =>
     M.bif (decide (op1 = 1))
       (k1 (decide (op1 = 1)))
       (M.bif (decide (op1 = 12))
          (k1 (decide (op1 = 12)))
          (M.bif (decide (op1 = 15))
             (k1 (decide (op1 = 15)))
             (M.bif (decide (op1 = 16))
                (k1 (decide (op1 = 16)))
                (M.bif (decide (op1 = 17))
                   (k1 (decide (op1 = 17)))
                   (M.bif (decide (op1 = 18))
                      (k1 (decide (op1 = 18)))
                      (M.bif (decide (op1 = 19))
                         (k1 (decide (op1 = 19)))
                         (k1 (decide (op1 = 21))))))))))
def r10_Operands (op1 : Int) : M (Bool × Bool × Bool × Bool) :=
  M.call (r10_memory op1) fun x1 =>
  M.bif x1
    (M.ret (true, true, true, false))
    (M.call (r05_Operands op1) fun x2 =>
     M.ret (x2.1, x2.2.1, x2.2.2.1, x2.2.2.2))
def r10_named (t1 : ATarget) (x1 : AInstr) : M (Bool) :=
  M.join (fun (x2 : Bool) =>
      M.bif x2
        (M.call (r10_within x1.A 8) fun x3 =>
         M.ret x3)
        (M.join (fun (x4 : Bool) =>
             M.bif x4
               (M.call (r10_within x1.A 8) fun x5 =>
                M.bif x5
                  (M.call (r10_within x1.B 8) fun x6 =>
                   M.ret x6)
                  (M.ret false))
               (M.join (fun (x7 : Bool) =>
                    M.bif x7
                      (M.call (r10_within x1.A 8) fun x8 =>
                       M.bif x8
                         (M.call (r10_within x1.B 8) fun x9 =>
                          M.bif x9
                            (M.call (r10_within x1.C 8) fun x10 =>
                             M.ret x10)
                            (M.ret false))
                         (M.ret false))
                      (M.bif (decide (x1.Op = 16))
                         (M.call (r10_within x1.B 8) fun x11 =>
                          M.ret x11)
                         (M.bif (decide (x1.Op = 22))
                            (M.call (r10_within x1.A (t1.Frames.length : Int)) fun x12 =>
                             M.ret x12)
                            (M.ret true)))) fun k3 =>
                M.bif (decide (x1.Op = 2))
                  (k3 (decide (x1.Op = 2)))
                  (M.bif (decide (x1.Op = 3))
                     (k3 (decide (x1.Op = 3)))
                     (M.bif (decide (x1.Op = 4))
                        (k3 (decide (x1.Op = 4)))
                        (M.bif (decide (x1.Op = 5))
                           (k3 (decide (x1.Op = 5)))
                           (M.bif (decide (x1.Op = 6))
                              (k3 (decide (x1.Op = 6)))
                              (M.bif (decide (x1.Op = 7))
                                 (k3 (decide (x1.Op = 7)))
                                 (M.bif (decide (x1.Op = 8))
                                    (k3 (decide (x1.Op = 8)))
                                    (M.bif (decide (x1.Op = 9))
                                       (k3 (decide (x1.Op = 9)))
                                       (M.bif (decide (x1.Op = 10))
                                          (k3 (decide (x1.Op = 10)))
                                          (k3 (decide (x1.Op = 11))))))))))))) fun k2 =>
         M.bif (decide (x1.Op = 1))
           (k2 (decide (x1.Op = 1)))
           (k2 (decide (x1.Op = 12))))) fun k1 =>
  M.bif (decide (x1.Op = 0))
    (k1 (decide (x1.Op = 0)))
    (M.bif (decide (x1.Op = 13))
       (k1 (decide (x1.Op = 13)))
       (M.bif (decide (x1.Op = 14))
          (k1 (decide (x1.Op = 14)))
          (M.bif (decide (x1.Op = 15))
             (k1 (decide (x1.Op = 15)))
             (k1 (decide (x1.Op = 21))))))
def r10_Reads (f1 : AFrame) (x1 : AInstr) : M (AInterval × Bool) :=
  M.bif (decide (x1.Op = 15))
    (M.ret ((⟨x1.B, x1.C⟩ : AInterval), true))
    (M.bif (decide (x1.Op = 17))
       (M.ret ((⟨x1.B, x1.C⟩ : AInterval), true))
       (M.ret ((⟨0, 0⟩ : AInterval), false)))
def r10_Writes (f1 : AFrame) (x1 : AInstr) : M (AInterval × Bool) :=
  M.bif (decide (x1.Op = 16))
    (M.ret ((⟨x1.A, x1.C⟩ : AInterval), true))
    (M.bif (decide (x1.Op = 17))
       (M.ret ((⟨x1.A, x1.C⟩ : AInterval), true))
       (M.ret ((⟨0, 0⟩ : AInterval), false)))
def r10_CheckInstr (t1 : ATarget) (i1 : Int) (k1 : Int) : M (Int) :=
  M.call (r10_within i1 (t1.Frames.length : Int)) fun x1 =>
  M.bif (!x1)
    (M.ret 4)
    (M.chk ((0 : Int) ≤ i1 ∧ i1 < (t1.Frames.length : Int)) <|
     M.call (r10_within k1 (((atD t1.Frames i1).Code).length : Int)) fun x2 =>
     M.bif (!x2)
       (M.ret 4)
       (M.chk ((0 : Int) ≤ i1 ∧ i1 < (t1.Frames.length : Int)) <|
        M.call (r10_shape t1 (atD t1.Frames i1)) fun x3 =>
        M.bif (!x3)
          (M.ret 4)
          (M.chk ((0 : Int) ≤ i1 ∧ i1 < (t1.Frames.length : Int)) <|
           M.chk ((0 : Int) ≤ k1 ∧ k1 < (((atD t1.Frames i1).Code).length : Int)) <|
           M.call (r10_within ((atD ((atD t1.Frames i1).Code) k1).Op) 25) fun x4 =>
           M.bif (!x4)
             (M.ret 4)
             (M.bif (decide (((atD ((atD t1.Frames i1).Code) k1).Op) = 18))
                (M.ret 4)
                (M.bif (decide (((atD ((atD t1.Frames i1).Code) k1).Op) = 19))
                   (M.ret 4)
                   (M.call (r10_Operands ((atD ((atD t1.Frames i1).Code) k1).Op)) fun x5 =>
                    M.join (fun (x6 : Bool) =>
                        M.bif x6
                          (M.ret 2)
                          (M.call (r10_named t1 (atD ((atD t1.Frames i1).Code) k1)) fun x7 =>
                           M.bif (!x7)
                             (M.ret 4)
                             (M.join (fun (_ : Unit) =>
                                  M.join (fun (_ : Unit) =>
                                      M.join (fun (_ : Unit) =>
                                          M.bif (decide (((atD ((atD t1.Frames i1).Code) k1).Op) = 20))
                                            (M.call (r10_within ((atD ((atD t1.Frames i1).Code) k1).A) (((atD t1.Frames i1).Code).length : Int)) fun x8 =>
                                             M.bif (!x8)
                                               (M.ret 6)
                                               (M.bif (decide (((atD ((atD t1.Frames i1).Code) k1).Op) = 21))
                                                  (M.call (r10_within ((atD ((atD t1.Frames i1).Code) k1).B) (((atD t1.Frames i1).Code).length : Int)) fun x9 =>
                                                   M.bif (!x9)
                                                     (M.ret 6)
                                                     (M.ret 0))
                                                  (M.ret 0)))
                                            (M.bif (decide (((atD ((atD t1.Frames i1).Code) k1).Op) = 21))
                                               (M.call (r10_within ((atD ((atD t1.Frames i1).Code) k1).B) (((atD t1.Frames i1).Code).length : Int)) fun x10 =>
                                                M.bif (!x10)
                                                  (M.ret 6)
                                                  (M.ret 0))
                                               (M.ret 0))) fun k5 =>
                                      M.call (r10_Writes (atD t1.Frames i1) (atD ((atD t1.Frames i1).Code) k1)) fun x11 =>
                                      M.bif x11.2
                                        (M.call (r03_Inside x11.1 ((atD t1.Frames i1).Size)) fun x12 =>
                                         M.bif (!x12)
                                           (M.ret 4)
                                           (k5 ()))
                                        (k5 ())) fun k4 =>
                                  M.call (r10_Reads (atD t1.Frames i1) (atD ((atD t1.Frames i1).Code) k1)) fun x13 =>
                                  M.bif x13.2
                                    (M.chk (okI ((16 : Int) * ((atD t1.Frames i1).Params))) <|
                                     M.chk (okI (((atD t1.Frames i1).Size) + ((16 : Int) * ((atD t1.Frames i1).Params)))) <|
                                     M.call (r03_Inside x13.1 (((atD t1.Frames i1).Size) + ((16 : Int) * ((atD t1.Frames i1).Params)))) fun x14 =>
                                     M.bif (!x14)
                                       (M.ret 4)
                                       (k4 ()))
                                    (k4 ())) fun k3 =>
                              M.call (r10_memory ((atD ((atD t1.Frames i1).Code) k1).Op)) fun x15 =>
                              M.bif x15
                                (M.call (r02_Size ((atD ((atD t1.Frames i1).Code) k1).C)) fun x16 =>
                                 M.bif (!x16)
                                   (M.ret 5)
                                   (k3 ()))
                                (k3 ())))) fun k2 =>
                    M.bif (!x5.1)
                      (M.bif (!decide (((atD ((atD t1.Frames i1).Code) k1).A) = 0))
                         (k2 true)
                         (M.bif (!x5.2.1)
                            (M.bif (!decide (((atD ((atD t1.Frames i1).Code) k1).B) = 0))
                               (k2 true)
                               (M.bif (!x5.2.2.1)
                                  (M.bif (!decide (((atD ((atD t1.Frames i1).Code) k1).C) = 0))
                                     (k2 true)
                                     (M.bif (!x5.2.2.2)
                                        (k2 (!decide (((atD ((atD t1.Frames i1).Code) k1).Imm) = 0)))
                                        (k2 false)))
                                  (M.bif (!x5.2.2.2)
                                     (k2 (!decide (((atD ((atD t1.Frames i1).Code) k1).Imm) = 0)))
                                     (k2 false))))
                            (M.bif (!x5.2.2.1)
                               (M.bif (!decide (((atD ((atD t1.Frames i1).Code) k1).C) = 0))
                                  (k2 true)
                                  (M.bif (!x5.2.2.2)
                                     (k2 (!decide (((atD ((atD t1.Frames i1).Code) k1).Imm) = 0)))
                                     (k2 false)))
                               (M.bif (!x5.2.2.2)
                                  (k2 (!decide (((atD ((atD t1.Frames i1).Code) k1).Imm) = 0)))
                                  (k2 false)))))
                      (M.bif (!x5.2.1)
                         (M.bif (!decide (((atD ((atD t1.Frames i1).Code) k1).B) = 0))
                            (k2 true)
                            (M.bif (!x5.2.2.1)
                               (M.bif (!decide (((atD ((atD t1.Frames i1).Code) k1).C) = 0))
                                  (k2 true)
                                  (M.bif (!x5.2.2.2)
                                     (k2 (!decide (((atD ((atD t1.Frames i1).Code) k1).Imm) = 0)))
                                     (k2 false)))
                               (M.bif (!x5.2.2.2)
                                  (k2 (!decide (((atD ((atD t1.Frames i1).Code) k1).Imm) = 0)))
                                  (k2 false))))
                         (M.bif (!x5.2.2.1)
                            (M.bif (!decide (((atD ((atD t1.Frames i1).Code) k1).C) = 0))
                               (k2 true)
                               (M.bif (!x5.2.2.2)
                                  (k2 (!decide (((atD ((atD t1.Frames i1).Code) k1).Imm) = 0)))
                                  (k2 false)))
                            (M.bif (!x5.2.2.2)
                               (k2 (!decide (((atD ((atD t1.Frames i1).Code) k1).Imm) = 0)))
                               (k2 false))))))))))
def r05_Terminator (op1 : Int) : M (Bool) :=
  M.bif (decide (op1 = 20))
    (M.ret true)
    (M.bif (decide (op1 = 23))
       (M.ret true)
       (M.ret (decide (op1 = 24))))
def r10_CheckFrame (t1 : ATarget) (i1 : Int) : M (Int) :=
  M.call (r10_within i1 (t1.Frames.length : Int)) fun x1 =>
  M.bif (!x1)
    (M.ret 4)
    (M.chk ((0 : Int) ≤ i1 ∧ i1 < (t1.Frames.length : Int)) <|
     M.call (r10_shape t1 (atD t1.Frames i1)) fun x2 =>
     M.bif (!x2)
       (M.ret 4)
       (M.chk ((0 : Int) ≤ i1 ∧ i1 < (t1.Frames.length : Int)) <|
        M.bif (decide (1024 < (((atD t1.Frames i1).Code).length : Int)))
          (M.ret 3)
          (M.loop (fun again1 (k1 : Int) =>
               M.bif (decide (k1 < (((atD t1.Frames i1).Code).length : Int)))
                 (M.call (r10_CheckInstr t1 i1 k1) fun x3 =>
                  M.bif (!decide (x3 = 0))
                    (M.ret x3)
                    (M.chk (okI (k1 + 1)) <|
                     again1 (k1 + 1)))
                 (M.bif (decide ((((atD t1.Frames i1).Code).length : Int) = 0))
                    (M.ret 6)
                    (M.chk (okI ((((atD t1.Frames i1).Code).length : Int) - 1)) <|
                     M.chk ((0 : Int) ≤ ((((atD t1.Frames i1).Code).length : Int) - 1) ∧ ((((atD t1.Frames i1).Code).length : Int) - 1) < (((atD t1.Frames i1).Code).length : Int)) <|
                     M.call (r05_Terminator ((atD ((atD t1.Frames i1).Code) ((((atD t1.Frames i1).Code).length : Int) - 1)).Op)) fun x4 =>
                     M.bif (!x4)
                       (M.ret 6)
                       (M.ret 0)))) 0)))
def r10_calls (t1 : ATarget) (f1 : AFrame) : M (Bool) :=
  M.loop (fun again1 (k1 : Int) =>
      M.bif (decide (k1 < (f1.Code.length : Int)))
        (M.chk ((0 : Int) ≤ k1 ∧ k1 < (f1.Code.length : Int)) <|
         M.bif (decide (((atD f1.Code k1).Op) = 22))
           (M.chk ((0 : Int) ≤ k1 ∧ k1 < (f1.Code.length : Int)) <|
            M.chk ((0 : Int) ≤ (atD f1.Code k1).A ∧ (atD f1.Code k1).A < (t1.Frames.length : Int)) <|
            M.chk (okI ((16 : Int) * ((atD t1.Frames ((atD f1.Code k1).A)).Params))) <|
            M.bif (decide (f1.Size < ((16 : Int) * ((atD t1.Frames ((atD f1.Code k1).A)).Params))))
              (M.ret false)
              (M.chk (okI (k1 + 1)) <|
               again1 (k1 + 1)))
           (M.chk (okI (k1 + 1)) <|
            again1 (k1 + 1)))
        (M.ret true)) 0
def r10_Check (t1 : ATarget) : M (Int) :=
  M.bif (decide (80 < (t1.Frames.length : Int)))
    (M.ret 3)
    (M.bif (decide ((t1.Frames.length : Int) = 0))
       (M.ret 4)
       (M.call (r03_Power t1.Align) fun x1 =>
        M.bif (!x1)
          (M.ret 5)
          (M.bif (decide (t1.Align < 16))
             (M.ret 5)
             (M.chk ((0 : Int) ≤ 0 ∧ 0 < (t1.Frames.length : Int)) <|
              M.bif (!decide (((atD t1.Frames 0).Params) = 0))
                (M.ret 7)
                (M.loop (fun again1 (i1 : Int) =>
                     M.bif (decide (i1 < (t1.Frames.length : Int)))
                       (M.call (r10_CheckFrame t1 i1) fun x2 =>
                        M.bif (!decide (x2 = 0))
                          (M.ret x2)
                          (M.chk (okI (i1 + 1)) <|
                           again1 (i1 + 1)))
                       (M.loop (fun again2 (i2 : Int) =>
                            M.bif (decide (i2 < (t1.Frames.length : Int)))
                              (M.chk ((0 : Int) ≤ i2 ∧ i2 < (t1.Frames.length : Int)) <|
                               M.call (r10_calls t1 (atD t1.Frames i2)) fun x3 =>
                               M.bif (!x3)
                                 (M.ret 7)
                                 (M.chk (okI (i2 + 1)) <|
                                  again2 (i2 + 1)))
                              (M.ret 0)) 0)) 0)))))
def law26_LowerGivesRightTargets (codes1 : List Int) : M (Bool) :=
  M.call (law26_awake) fun x1 =>
  M.bif (!x1)
    (M.ret false)
    (M.call (law26_scene codes1 false) fun x2 =>
     M.call (lower_Target x2.1 x2.2.1 x2.2.2.1) fun x3 =>
     M.bif (!decide (x3.2 = 0))
       (M.ret false)
       (M.call (r10_Check x3.1) fun x4 =>
        M.bif (!decide (x4 = 0))
          (M.ret false)
          (M.bif (!decide ((x3.1.Frames.length : Int) = (x2.1.Funcs.length : Int)))
             (M.ret false)
             (M.bif (!decide (x3.1.Align = x2.2.1))
                (M.ret false)
                (M.loop (fun again1 (i1 : Int) =>
                     M.bif (decide (i1 < (x3.1.Frames.length : Int)))
                       (M.chk ((0 : Int) ≤ i1 ∧ i1 < (x3.1.Frames.length : Int)) <|
                        M.chk ((0 : Int) ≤ i1 ∧ i1 < (x2.1.Funcs.length : Int)) <|
                        M.bif (!decide ((((atD x3.1.Frames i1).Code).length : Int) = (((atD x2.1.Funcs i1).Code).length : Int)))
                          (M.ret false)
                          (M.chk ((0 : Int) ≤ i1 ∧ i1 < (x3.1.Frames.length : Int)) <|
                           M.chk ((0 : Int) ≤ i1 ∧ i1 < (x2.2.2.1.length : Int)) <|
                           M.bif (!decide (((atD x3.1.Frames i1).Size) = ((atD x2.2.2.1 i1).Size)))
                             (M.ret false)
                             (M.chk (okI (i1 + 1)) <|
                              again1 (i1 + 1))))
                       (M.ret true)) 0)))))
end Go.Proofs.YtjnfnochdefpjaaGreat.Q
