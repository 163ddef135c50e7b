/- The data of the program, and its functions as lifted texts (written by a program). -/
import Derived.Test.YteifdlklpdjkkaaDoorMapP
set_option linter.unusedVariables false
namespace Go.Proofs.YteifdlklpdjkkaaDoor.Q
/-- What the package bitset does (known by hand). -/
def in512 (n : Int) : Bool := decide (0 ≤ n ∧ n < 512)
def setOf (l : List Int) : List Int := ((List.range 512).filter fun k : Nat => decide ((k : Int) ∈ l)).map fun k : Nat => (k : Int)
/-- In order, all of them in range. -/
def ascS (l : List Int) : Bool := (List.range l.length).all fun j => in512 (l.getD j 0) && (decide (j = 0) || decide (l.getD (j - 1) 0 < l.getD j 0))
def bitset_Has (s : List Int) (n : Int) : M Bool := M.ret (in512 n && decide (n ∈ s))
def bitset_Of (l : List Int) : M (List Int) := M.ret (setOf l)
def bitset_Add (s : List Int) (n : Int) : M (List Int) := M.ret (setOf (s ++ [n]))
def bitset_Remove (s : List Int) (n : Int) : M (List Int) := M.ret (setOf (s.filter fun x => x != n))
def bitset_Union (a b : List Int) : M (List Int) := M.ret (setOf (a ++ b))
def bitset_Meet (a b : List Int) : M (List Int) := M.ret (setOf (a.filter fun x => decide (x ∈ b)))
def bitset_Within (a b : List Int) : M Bool := M.ret (a.all fun x => in512 x && decide (x ∈ b))
def bitset_Check (s : List Int) : M Bool := M.ret (ascS s)
structure ASlot where
  Size : Int
  Align : Int
  deriving DecidableEq
instance : Inhabited ASlot := ⟨⟨0, 0⟩⟩
structure AInstr where
  Op : Int
  A : Int
  B : Int
  C : Int
  Imm : Int
  deriving DecidableEq
instance : Inhabited AInstr := ⟨⟨0, 0, 0, 0, 0⟩⟩
structure AFunc where
  Params : Int
  Slots : List ASlot
  Code : List AInstr
  deriving DecidableEq
instance : Inhabited AFunc := ⟨⟨0, [], []⟩⟩
structure AProgram where
  Funcs : List AFunc
  deriving DecidableEq
instance : Inhabited AProgram := ⟨⟨[]⟩⟩
structure Arr2Int where
  e0 : Int
  e1 : Int
  deriving DecidableEq
instance : Inhabited Arr2Int := ⟨⟨0, 0⟩⟩
structure DCodes where
  list : List Int
  at_ : Int
  deriving DecidableEq
instance : Inhabited DCodes := ⟨⟨[], 0⟩⟩
def callgraph_counts (p1 : AProgram) : M (List (Arr2Int × Int)) :=
  M.loop (fun again1 ((x1, m1) : Int × List (Arr2Int × Int)) =>
      M.bif (decide (x1 < (p1.Funcs.length : Int)))
        (M.chk ((0 : Int) ≤ x1 ∧ x1 < (p1.Funcs.length : Int)) <|
         M.loop (fun again2 ((x2, m2) : Int × List (Arr2Int × Int)) =>
             M.bif (decide (x2 < (((atD p1.Funcs x1).Code).length : Int)))
               (M.chk ((0 : Int) ≤ x2 ∧ x2 < (((atD p1.Funcs x1).Code).length : Int)) <|
                M.bif (decide (((atD ((atD p1.Funcs x1).Code) x2).Op) = 22))
                  (M.chk (okI ((getM m2 (⟨x1, (atD ((atD p1.Funcs x1).Code) x2).A⟩ : Arr2Int) (0 : Int)) + 1)) <|
                   M.chk (okI (x2 + 1)) <|
                   again2 ((x2 + 1), (putM m2 (⟨x1, (atD ((atD p1.Funcs x1).Code) x2).A⟩ : Arr2Int) ((getM m2 (⟨x1, (atD ((atD p1.Funcs x1).Code) x2).A⟩ : Arr2Int) (0 : Int)) + 1))))
                  (M.chk (okI (x2 + 1)) <|
                   again2 ((x2 + 1), m2)))
               (M.chk (okI (x1 + 1)) <|
                again1 ((x1 + 1), m2))) (0, m1))
        (M.ret m1)) (0, ([] : List (Arr2Int × Int)))
def callgraph_Of (p1 : AProgram) : M (List (List Int)) :=
  M.chk ((0 : Int) ≤ (p1.Funcs.length : Int) ∧ (p1.Funcs.length : Int) < 1000000000000) <|
  M.call (callgraph_counts p1) fun x1 =>
  M.loop (fun again1 ((g1, seen1) : List (List Int) × List Nat) =>
      M.nxt x1.length seen1
        (M.ret g1)
        (fun i1 =>
         M.chk ((0 : Int) ≤ ((atD x1 (i1 : Int)).1).e0 ∧ ((atD x1 (i1 : Int)).1).e0 < (g1.length : Int)) <|
         M.call (bitset_Add (atD g1 (((atD x1 (i1 : Int)).1).e0)) (((atD x1 (i1 : Int)).1).e1)) fun x2 =>
         M.chk ((0 : Int) ≤ ((atD x1 (i1 : Int)).1).e0 ∧ ((atD x1 (i1 : Int)).1).e0 < (g1.length : Int)) <|
         again1 ((setD g1 (((atD x1 (i1 : Int)).1).e0) x2), (seen1 ++ [i1])))) ((repD (p1.Funcs.length : Int) : List (List Int)), ([] : List Nat))
def law27_awake  : M (Bool) :=
  M.call (callgraph_Of (⟨([(⟨0, ([] : List ASlot), ([(⟨22, 0, 0, 0, 0⟩ : AInstr), (⟨23, 0, 0, 0, 0⟩ : AInstr)] : List AInstr)⟩ : AFunc)] : List AFunc)⟩ : AProgram)) fun x1 =>
  M.bif (decide ((x1.length : Int) = 1))
    (M.chk ((0 : Int) ≤ 0 ∧ 0 < (x1.length : Int)) <|
     M.ret (decide (((atD x1 0).length : Int) = 1)))
    (M.ret false)
def draw_New (list1 : List Int) (limit1 : Int) : M (DCodes) :=
  M.chk ((0 : Int) ≤ 0 ∧ 0 ≤ (min (list1.length : Int) limit1) ∧ (min (list1.length : Int) limit1) ≤ (list1.length : Int)) <|
  M.ret (⟨(sliceD list1 0 (min (list1.length : Int) limit1)), 0⟩ : DCodes)
def draw_Left (c1 : DCodes) : M (Bool × DCodes) :=
  M.ret ((decide (c1.at_ < (c1.list.length : Int))), c1)
def draw_Next (c1 : DCodes) (n1 : Int) : M (Int × DCodes) :=
  M.call (draw_Left c1) fun x1 =>
  M.bif (!x1.1)
    (M.ret (0, x1.2))
    (M.bif (decide (n1 < 1))
       (M.ret (0, x1.2))
       (M.chk ((0 : Int) ≤ x1.2.at_ ∧ x1.2.at_ < (x1.2.list.length : Int)) <|
        M.chk (okI (atD x1.2.list x1.2.at_)) <|
        M.chk (okI (x1.2.at_ + 1)) <|
        M.chk (okI ((atD x1.2.list x1.2.at_) * n1)) <|
        M.chk ((0 : Int) ≤ ((atD x1.2.list x1.2.at_) * n1) ∧ (0 : Int) < 256 ∧ ((atD x1.2.list x1.2.at_) * n1) ≤ 9223372036854775807) <|
        M.ret ((((atD x1.2.list x1.2.at_) * n1) / 256), (⟨x1.2.list, (x1.2.at_ + 1)⟩ : DCodes))))
def draw_Slot (c1 : DCodes) : M (ASlot × DCodes) :=
  M.call (draw_Next c1 7) fun x1 =>
  M.chk ((0 : Int) ≤ x1.1 ∧ x1.1 < (([8, 4, 8, 1, 2, 16, 8] : List Int).length : Int)) <|
  M.call (draw_Next x1.2 8) fun x2 =>
  M.chk ((0 : Int) ≤ x2.1 ∧ x2.1 < (([8, 4, 1, 8, 16, 2, 32, 64] : List Int).length : Int)) <|
  M.ret ((⟨(atD ([8, 4, 8, 1, 2, 16, 8] : List Int) x1.1), (atD ([8, 4, 1, 8, 16, 2, 32, 64] : List Int) x2.1)⟩ : ASlot), x2.2)
def draw_Slots (c1 : DCodes) (most1 : Int) : M (List ASlot × DCodes) :=
  M.chk (okI (most1 + 1)) <|
  M.call (draw_Next c1 (most1 + 1)) fun x1 =>
  M.loop (fun again1 ((n1, c2, l1) : Int × DCodes × List ASlot) =>
      M.bif (decide (0 < n1))
        (M.call (draw_Slot c2) fun x2 =>
         M.chk (l1.length + ([x2.1] : List ASlot).length < 1000000000000) <|
         M.chk (okI (n1 - 1)) <|
         again1 ((n1 - 1), x2.2, (l1 ++ ([x2.1] : List ASlot))))
        (M.ret (l1, c2))) (x1.1, x1.2, ([] : List ASlot))
def draw_like (c1 : DCodes) (f1 : AFunc) (s1 : Int) : M (Int × DCodes) :=
  M.loop (fun again1 ((k1, l1) : Int × List Int) =>
      M.bif (decide (k1 < (f1.Slots.length : Int)))
        (M.chk ((0 : Int) ≤ k1 ∧ k1 < (f1.Slots.length : Int)) <|
         M.chk ((0 : Int) ≤ s1 ∧ s1 < (f1.Slots.length : Int)) <|
         M.bif (decide (((atD f1.Slots k1).Size) = ((atD f1.Slots s1).Size)))
           (M.chk (l1.length + ([k1] : List Int).length < 1000000000000) <|
            M.chk (okI (k1 + 1)) <|
            again1 ((k1 + 1), (l1 ++ ([k1] : List Int))))
           (M.chk (okI (k1 + 1)) <|
            again1 ((k1 + 1), l1)))
        (M.call (draw_Next c1 (l1.length : Int)) fun x1 =>
         M.chk ((0 : Int) ≤ x1.1 ∧ x1.1 < (l1.length : Int)) <|
         M.ret ((atD l1 x1.1), x1.2))) (0, ([] : List Int))
def draw_Word (c1 : DCodes) : M (Int × DCodes) :=
  M.call (draw_Next c1 6) fun x1 =>
  M.bif (decide (x1.1 = 0))
    (M.call (draw_Next x1.2 3) fun x2 =>
     M.chk ((0 : Int) ≤ x2.1 ∧ x2.1 ≤ 18446744073709551615) <|
     M.chk ((0 : Int) ≤ (18446744073709551615 : Int) - x2.1 ∧ (18446744073709551615 : Int) - x2.1 ≤ 18446744073709551615) <|
     M.ret (((18446744073709551615 : Int) - x2.1), x2.2))
    (M.bif (decide (x1.1 = 1))
       (M.call (draw_Next x1.2 64) fun x3 =>
        M.chk ((0 : Int) ≤ x3.1 ∧ x3.1 ≤ 64 ∧ (0 ≤ (1 : Int) * 2 ^ x3.1.toNat ∧ (1 : Int) * 2 ^ x3.1.toNat ≤ 18446744073709551615)) <|
        M.ret (((1 : Int) * 2 ^ x3.1.toNat), x3.2))
       (M.bif (decide (x1.1 = 2))
          (M.ret (0, x1.2))
          (M.call (draw_Next x1.2 256) fun x4 =>
           M.chk ((0 : Int) ≤ x4.1 ∧ x4.1 ≤ 18446744073709551615) <|
           M.ret (x4.1, x4.2))))
def draw_body (c1 : DCodes) (f1 : AFunc) (i1 : Int) (params1 : List Int) : M (List AInstr × DCodes) :=
  M.call (draw_Next c1 4) fun x1 =>
  M.call (draw_Next x1.2 20) fun x2 =>
  M.join (fun (x3 : Bool) =>
      M.bif x3
        (M.call (draw_Next x2.2 (f1.Slots.length : Int)) fun x4 =>
         M.ret (([(⟨16, x4.1, x1.1, 0, 0⟩ : AInstr)] : List AInstr), x4.2))
        (M.join (fun (x5 : Bool) =>
             M.bif x5
               (M.call (draw_Next x2.2 (f1.Slots.length : Int)) fun x6 =>
                M.ret (([(⟨15, x1.1, x6.1, 0, 0⟩ : AInstr)] : List AInstr), x6.2))
               (M.join (fun (x7 : Bool) =>
                    M.bif x7
                      (M.call (draw_Next x2.2 (f1.Slots.length : Int)) fun x8 =>
                       M.call (draw_like x8.2 f1 x8.1) fun x9 =>
                       M.ret (([(⟨17, x9.1, x8.1, 0, 0⟩ : AInstr)] : List AInstr), x9.2))
                      (M.bif (decide (x2.1 < 11))
                         (M.call (draw_Word x2.2) fun x10 =>
                          M.ret (([(⟨0, x1.1, 0, 0, x10.1⟩ : AInstr)] : List AInstr), x10.2))
                         (M.bif (decide (x2.1 < 13))
                            (M.call (draw_Next x2.2 10) fun x11 =>
                             M.chk (okI ((2 : Int) + x11.1)) <|
                             M.call (draw_Next x11.2 4) fun x12 =>
                             M.call (draw_Next x12.2 8) fun x13 =>
                             M.ret (([(⟨((2 : Int) + x11.1), x1.1, x12.1, x13.1, 0⟩ : AInstr)] : List AInstr), x13.2))
                            (M.bif (decide (x2.1 < 15))
                               (M.ret (([(⟨14, x1.1, 0, 0, 0⟩ : AInstr)] : List AInstr), x2.2))
                               (M.bif (decide (x2.1 = 15))
                                  (M.call (draw_Next x2.2 3) fun x14 =>
                                   M.chk ((0 : Int) ≤ x14.1 ∧ x14.1 < (([13, 12, 1] : List Int).length : Int)) <|
                                   M.ret (([(⟨(atD ([13, 12, 1] : List Int) x14.1), x1.1, 0, 0, 0⟩ : AInstr)] : List AInstr), x14.2))
                                  (M.join (fun (x15 : Bool) =>
                                       M.bif x15
                                         (M.call (draw_Next x2.2 f1.Params) fun x16 =>
                                          M.ret (([(⟨19, x1.1, x16.1, 0, 0⟩ : AInstr)] : List AInstr), x16.2))
                                         (M.bif (decide (17 ≤ x2.1))
                                            (M.chk (okI (i1 + 1)) <|
                                             M.bif (decide ((i1 + 1) < (params1.length : Int)))
                                               (M.chk (okI (i1 + 1)) <|
                                                M.chk (okI ((params1.length : Int) - i1)) <|
                                                M.chk (okI (((params1.length : Int) - i1) - 1)) <|
                                                M.call (draw_Next x2.2 (((params1.length : Int) - i1) - 1)) fun x17 =>
                                                M.chk (okI ((i1 + 1) + x17.1)) <|
                                                M.loop (fun again1 ((a1, c2, out1) : Int × DCodes × List AInstr) =>
                                                    M.chk ((0 : Int) ≤ ((i1 + 1) + x17.1) ∧ ((i1 + 1) + x17.1) < (params1.length : Int)) <|
                                                    M.bif (decide (a1 < (atD params1 ((i1 + 1) + x17.1))))
                                                      (M.call (draw_Next c2 8) fun x18 =>
                                                       M.bif (decide (x18.1 < 7))
                                                         (M.call (draw_Next x18.2 4) fun x19 =>
                                                          M.chk (out1.length + ([(⟨18, a1, x19.1, 0, 0⟩ : AInstr)] : List AInstr).length < 1000000000000) <|
                                                          M.chk (okI (a1 + 1)) <|
                                                          again1 ((a1 + 1), x19.2, (out1 ++ ([(⟨18, a1, x19.1, 0, 0⟩ : AInstr)] : List AInstr))))
                                                         (M.chk (okI (a1 + 1)) <|
                                                          again1 ((a1 + 1), x18.2, out1)))
                                                      (M.chk (out1.length + ([(⟨22, ((i1 + 1) + x17.1), 0, 0, 0⟩ : AInstr)] : List AInstr).length < 1000000000000) <|
                                                       M.ret ((out1 ++ ([(⟨22, ((i1 + 1) + x17.1), 0, 0, 0⟩ : AInstr)] : List AInstr)), c2))) (0, x17.2, ([] : List AInstr)))
                                               (M.ret (([(⟨14, x1.1, 0, 0, 0⟩ : AInstr)] : List AInstr), x2.2)))
                                            (M.ret (([(⟨14, x1.1, 0, 0, 0⟩ : AInstr)] : List AInstr), x2.2)))) fun k4 =>
                                   M.bif (decide (x2.1 = 16))
                                     (k4 (decide (0 < f1.Params)))
                                     (k4 false))))))) fun k3 =>
                M.bif (decide (x2.1 < 9))
                  (k3 (decide (0 < (f1.Slots.length : Int))))
                  (k3 false))) fun k2 =>
         M.bif (decide (x2.1 < 6))
           (k2 (decide (0 < (f1.Slots.length : Int))))
           (k2 false))) fun k1 =>
  M.bif (decide (x2.1 < 3))
    (k1 (decide (0 < (f1.Slots.length : Int))))
    (k1 false)
def draw_function (c1 : DCodes) (i1 : Int) (params1 : List Int) (most1 : Int) : M (AFunc × DCodes) :=
  M.chk ((0 : Int) ≤ i1 ∧ i1 < (params1.length : Int)) <|
  M.call (draw_Slots c1 6) fun x1 =>
  M.loop (fun again1 ((s1, c2, code1) : Int × DCodes × List AInstr) =>
      M.bif (decide (s1 < (x1.1.length : Int)))
        (M.call (draw_Next c2 4) fun x2 =>
         M.bif (decide (x2.1 < 3))
           (M.call (draw_Next x2.2 4) fun x3 =>
            M.chk (code1.length + ([(⟨16, s1, x3.1, 0, 0⟩ : AInstr)] : List AInstr).length < 1000000000000) <|
            M.chk (okI (s1 + 1)) <|
            again1 ((s1 + 1), x3.2, (code1 ++ ([(⟨16, s1, x3.1, 0, 0⟩ : AInstr)] : List AInstr))))
           (M.chk (okI (s1 + 1)) <|
            again1 ((s1 + 1), x2.2, code1)))
        (M.chk (okI (most1 + 1)) <|
         M.call (draw_Next c2 (most1 + 1)) fun x4 =>
         M.loop (fun again2 ((n2, c3, code2) : Int × DCodes × List AInstr) =>
             M.bif (decide (0 < n2))
               (M.call (draw_body c3 (⟨(atD params1 i1), x1.1, ([] : List AInstr)⟩ : AFunc) i1 params1) fun x5 =>
                M.chk (code2.length + x5.1.length < 1000000000000) <|
                M.call (draw_Next x5.2 9) fun x6 =>
                M.bif (decide (x6.1 = 7))
                  (M.call (draw_Next x6.2 4) fun x7 =>
                   M.chk ((code2 ++ x5.1).length + ([(⟨21, x7.1, (-1), 0, 0⟩ : AInstr)] : List AInstr).length < 1000000000000) <|
                   M.chk (okI (n2 - 1)) <|
                   again2 ((n2 - 1), x7.2, ((code2 ++ x5.1) ++ ([(⟨21, x7.1, (-1), 0, 0⟩ : AInstr)] : List AInstr))))
                  (M.bif (decide (x6.1 = 8))
                     (M.call (draw_Next x6.2 3) fun x8 =>
                      M.bif (decide (x8.1 = 2))
                        (M.chk ((code2 ++ x5.1).length + ([(⟨20, (-1), 0, 0, 0⟩ : AInstr)] : List AInstr).length < 1000000000000) <|
                         M.chk (okI (n2 - 1)) <|
                         again2 ((n2 - 1), x8.2, ((code2 ++ x5.1) ++ ([(⟨20, (-1), 0, 0, 0⟩ : AInstr)] : List AInstr))))
                        (M.chk (okI (n2 - 1)) <|
                         again2 ((n2 - 1), x8.2, (code2 ++ x5.1))))
                     (M.chk (okI (n2 - 1)) <|
                      again2 ((n2 - 1), x6.2, (code2 ++ x5.1)))))
               (M.join (fun ((c4, Op1, Imm1) : DCodes × Int × Int) =>
                    M.chk (code2.length + ([(⟨Op1, 0, 0, 0, Imm1⟩ : AInstr)] : List AInstr).length < 1000000000000) <|
                    M.loop (fun again3 ((k2, c5, code3) : Int × DCodes × List AInstr) =>
                        M.bif (decide (k2 < (code3.length : Int)))
                          (M.call (draw_Next c5 8) fun x9 =>
                           M.chk (okI (k2 + x9.1)) <|
                           M.chk (okI ((k2 + x9.1) - 2)) <|
                           M.join (fun (to1 : Int) =>
                               M.chk ((0 : Int) ≤ k2 ∧ k2 < (code3.length : Int)) <|
                               M.bif (decide (((atD code3 k2).Op) = 20))
                                 (M.chk ((0 : Int) ≤ k2 ∧ k2 < (code3.length : Int)) <|
                                  M.bif (decide (((atD code3 k2).A) < 0))
                                    (M.chk ((0 : Int) ≤ k2 ∧ k2 < (code3.length : Int)) <|
                                     M.chk (okI (k2 + 1)) <|
                                     again3 ((k2 + 1), x9.2, (setD code3 k2 (⟨(atD code3 k2).Op, to1, (atD code3 k2).B, (atD code3 k2).C, (atD code3 k2).Imm⟩ : AInstr))))
                                    (M.chk ((0 : Int) ≤ k2 ∧ k2 < (code3.length : Int)) <|
                                     M.bif (decide (((atD code3 k2).Op) = 21))
                                       (M.chk ((0 : Int) ≤ k2 ∧ k2 < (code3.length : Int)) <|
                                        M.bif (decide (((atD code3 k2).B) < 0))
                                          (M.chk ((0 : Int) ≤ k2 ∧ k2 < (code3.length : Int)) <|
                                           M.chk (okI (k2 + 1)) <|
                                           again3 ((k2 + 1), x9.2, (setD code3 k2 (⟨(atD code3 k2).Op, (atD code3 k2).A, to1, (atD code3 k2).C, (atD code3 k2).Imm⟩ : AInstr))))
                                          (M.chk (okI (k2 + 1)) <|
                                           again3 ((k2 + 1), x9.2, code3)))
                                       (M.chk (okI (k2 + 1)) <|
                                        again3 ((k2 + 1), x9.2, code3))))
                                 (M.chk ((0 : Int) ≤ k2 ∧ k2 < (code3.length : Int)) <|
                                  M.bif (decide (((atD code3 k2).Op) = 21))
                                    (M.chk ((0 : Int) ≤ k2 ∧ k2 < (code3.length : Int)) <|
                                     M.bif (decide (((atD code3 k2).B) < 0))
                                       (M.chk ((0 : Int) ≤ k2 ∧ k2 < (code3.length : Int)) <|
                                        M.chk (okI (k2 + 1)) <|
                                        again3 ((k2 + 1), x9.2, (setD code3 k2 (⟨(atD code3 k2).Op, (atD code3 k2).A, to1, (atD code3 k2).C, (atD code3 k2).Imm⟩ : AInstr))))
                                       (M.chk (okI (k2 + 1)) <|
                                        again3 ((k2 + 1), x9.2, code3)))
                                    (M.chk (okI (k2 + 1)) <|
                                     again3 ((k2 + 1), x9.2, code3)))) fun k3 =>
                           M.bif (decide (((k2 + x9.1) - 2) < 0))
                             (M.chk (okI ((code3.length : Int) - 1)) <|
                              k3 ((code3.length : Int) - 1))
                             (M.bif (decide ((code3.length : Int) ≤ ((k2 + x9.1) - 2)))
                                (M.chk (okI ((code3.length : Int) - 1)) <|
                                 k3 ((code3.length : Int) - 1))
                                (k3 ((k2 + x9.1) - 2))))
                          (M.ret ((⟨(atD params1 i1), x1.1, code3⟩ : AFunc), c5))) (0, c4, (code2 ++ ([(⟨Op1, 0, 0, 0, Imm1⟩ : AInstr)] : List AInstr)))) fun k1 =>
                M.call (draw_Next c3 12) fun x10 =>
                M.bif (decide (x10.1 = 11))
                  (M.call (draw_Word x10.2) fun x11 =>
                   k1 (x11.2, 24, x11.1))
                  (k1 (x10.2, 23, 0)))) (x4.1, x4.2, code1))) (0, x1.2, ([] : List AInstr))
def draw_Program (c1 : DCodes) (funcs1 : Int) (most1 : Int) : M (AProgram × DCodes) :=
  M.call (draw_Next c1 funcs1) fun x1 =>
  M.loop (fun again1 ((n1, c2, params1) : Int × DCodes × List Int) =>
      M.bif (decide (0 < n1))
        (M.call (draw_Next c2 4) fun x2 =>
         M.chk (params1.length + ([x2.1] : List Int).length < 1000000000000) <|
         M.chk (okI (n1 - 1)) <|
         again1 ((n1 - 1), x2.2, (params1 ++ ([x2.1] : List Int))))
        (M.loop (fun again2 ((params2, i1, c3, Funcs1) : List Int × Int × DCodes × List AFunc) =>
             M.bif (decide (i1 < (params2.length : Int)))
               (M.chk (Funcs1.length < 1000000000000) <|
                M.call (draw_function c3 i1 params2 most1) fun x3 =>
                M.chk (Funcs1.length + ([x3.1] : List AFunc).length < 1000000000000) <|
                M.chk (okI (i1 + 1)) <|
                again2 (params2, (i1 + 1), x3.2, (Funcs1 ++ ([x3.1] : List AFunc))))
               (M.ret ((⟨Funcs1⟩ : AProgram), c3))) (params1, 0, c2, ([] : List AFunc)))) (x1.1, x1.2, ([0] : List Int))
def draw_shifted (code1 : List AInstr) : M (List AInstr) :=
  M.chk (code1.length < 1000000000000) <|
  M.loop (fun again1 ((k1, out1) : Int × List AInstr) =>
      M.bif (decide (k1 < (out1.length : Int)))
        (M.chk ((0 : Int) ≤ k1 ∧ k1 < (out1.length : Int)) <|
         M.bif (decide (((atD out1 k1).Op) = 20))
           (M.chk ((0 : Int) ≤ k1 ∧ k1 < (out1.length : Int)) <|
            M.chk (okI (((atD out1 k1).A) + 1)) <|
            M.chk ((0 : Int) ≤ k1 ∧ k1 < (out1.length : Int)) <|
            M.chk (okI (k1 + 1)) <|
            again1 ((k1 + 1), (setD out1 k1 (⟨(atD out1 k1).Op, (((atD out1 k1).A) + 1), (atD out1 k1).B, (atD out1 k1).C, (atD out1 k1).Imm⟩ : AInstr))))
           (M.bif (decide (((atD out1 k1).Op) = 21))
              (M.chk ((0 : Int) ≤ k1 ∧ k1 < (out1.length : Int)) <|
               M.chk (okI (((atD out1 k1).B) + 1)) <|
               M.chk ((0 : Int) ≤ k1 ∧ k1 < (out1.length : Int)) <|
               M.chk (okI (k1 + 1)) <|
               again1 ((k1 + 1), (setD out1 k1 (⟨(atD out1 k1).Op, (atD out1 k1).A, (((atD out1 k1).B) + 1), (atD out1 k1).C, (atD out1 k1).Imm⟩ : AInstr))))
              (M.chk (okI (k1 + 1)) <|
               again1 ((k1 + 1), out1))))
        (M.ret out1)) (0, code1)
def r21_Replace (p1 : AProgram) (i1 : Int) (f1 : AFunc) : M (AProgram) :=
  M.chk (p1.Funcs.length < 1000000000000) <|
  M.chk ((0 : Int) ≤ i1 ∧ i1 < (p1.Funcs.length : Int)) <|
  M.ret (⟨(setD p1.Funcs i1 f1)⟩ : AProgram)
def r31_Only (p1 : AProgram) (i1 : Int) (f1 : AFunc) : M (AProgram) :=
  M.call (r21_Replace p1 i1 f1) fun x1 =>
  M.ret x1
def draw_Cyclic (c1 : DCodes) (p1 : AProgram) : M (AProgram × DCodes) :=
  M.call (draw_Next c1 (p1.Funcs.length : Int)) fun x1 =>
  M.chk ((0 : Int) ≤ x1.1 ∧ x1.1 < (p1.Funcs.length : Int)) <|
  M.call (draw_Next x1.2 (p1.Funcs.length : Int)) fun x2 =>
  M.call (draw_shifted ((atD p1.Funcs x1.1).Code)) fun x3 =>
  M.chk (([(⟨22, x2.1, 0, 0, 0⟩ : AInstr)] : List AInstr).length + x3.length < 1000000000000) <|
  M.call (r31_Only p1 x1.1 (⟨(atD p1.Funcs x1.1).Params, (atD p1.Funcs x1.1).Slots, (([(⟨22, x2.1, 0, 0, 0⟩ : AInstr)] : List AInstr) ++ x3)⟩ : AFunc)) fun x4 =>
  M.ret (x4, x2.2)
def callgraph_Calls (p1 : AProgram) (i1 : Int) (j1 : Int) : M (Int) :=
  M.call (callgraph_counts p1) fun x1 =>
  M.ret (getM x1 (⟨i1, j1⟩ : Arr2Int) (0 : Int))
def r27_Calls (p1 : AProgram) (i1 : Int) (j1 : Int) : M (Int) :=
  M.loop (fun again1 ((n1, k1) : Int × Int) =>
      M.bif (decide (0 ≤ i1))
        (M.bif (decide (i1 < (p1.Funcs.length : Int)))
           (M.chk ((0 : Int) ≤ i1 ∧ i1 < (p1.Funcs.length : Int)) <|
            M.bif (decide (k1 < (((atD p1.Funcs i1).Code).length : Int)))
              (M.chk ((0 : Int) ≤ i1 ∧ i1 < (p1.Funcs.length : Int)) <|
               M.chk ((0 : Int) ≤ k1 ∧ k1 < (((atD p1.Funcs i1).Code).length : Int)) <|
               M.bif (decide (((atD ((atD p1.Funcs i1).Code) k1).Op) = 22))
                 (M.bif (decide (((atD ((atD p1.Funcs i1).Code) k1).A) = j1))
                    (M.chk (okI (n1 + 1)) <|
                     M.chk (okI (k1 + 1)) <|
                     again1 ((n1 + 1), (k1 + 1)))
                    (M.chk (okI (k1 + 1)) <|
                     again1 (n1, (k1 + 1))))
                 (M.chk (okI (k1 + 1)) <|
                  again1 (n1, (k1 + 1))))
              (M.ret n1))
           (M.ret n1))
        (M.ret n1)) (0, 0)
def r04_good (n1 : Int) : M (Bool) :=
  M.bif (decide (0 ≤ n1))
    (M.ret (decide (n1 < 512)))
    (M.ret false)
def r04_Add (s1 : List Int) (n1 : Int) : M (List Int) :=
  M.call (r04_good n1) fun x1 =>
  M.loop (fun again1 ((done1, i1, out1) : Bool × Int × List Int) =>
      M.bif (decide (i1 < (s1.length : Int)))
        (M.join (fun ((done2, out2) : Bool × List Int) =>
             M.chk ((0 : Int) ≤ i1 ∧ i1 < (s1.length : Int)) <|
             M.chk (out2.length + ([(atD s1 i1)] : List Int).length < 1000000000000) <|
             M.chk (okI (i1 + 1)) <|
             again1 (done2, (i1 + 1), (out2 ++ ([(atD s1 i1)] : List Int)))) fun k1 =>
         M.bif (!done1)
           (M.chk ((0 : Int) ≤ i1 ∧ i1 < (s1.length : Int)) <|
            M.bif (decide (n1 ≤ (atD s1 i1)))
              (M.chk ((0 : Int) ≤ i1 ∧ i1 < (s1.length : Int)) <|
               M.bif (decide (n1 < (atD s1 i1)))
                 (M.chk (out1.length + ([n1] : List Int).length < 1000000000000) <|
                  k1 (true, (out1 ++ ([n1] : List Int))))
                 (k1 (true, out1)))
              (k1 (done1, out1)))
           (k1 (done1, out1)))
        (M.bif (!done1)
           (M.chk (out1.length + ([n1] : List Int).length < 1000000000000) <|
            M.ret (out1 ++ ([n1] : List Int)))
           (M.ret out1))) ((!x1), 0, ([] : List Int))
def r27_Of (p1 : AProgram) : M (List (List Int)) :=
  M.chk ((0 : Int) ≤ (p1.Funcs.length : Int) ∧ (p1.Funcs.length : Int) < 1000000000000) <|
  M.loop (fun again1 ((i1, out1) : Int × List (List Int)) =>
      M.bif (decide (i1 < (p1.Funcs.length : Int)))
        (M.chk ((0 : Int) ≤ i1 ∧ i1 < (p1.Funcs.length : Int)) <|
         M.loop (fun again2 ((k1, out2) : Int × List (List Int)) =>
             M.bif (decide (k1 < (((atD p1.Funcs i1).Code).length : Int)))
               (M.chk ((0 : Int) ≤ k1 ∧ k1 < (((atD p1.Funcs i1).Code).length : Int)) <|
                M.bif (decide (((atD ((atD p1.Funcs i1).Code) k1).Op) = 22))
                  (M.chk ((0 : Int) ≤ i1 ∧ i1 < (out2.length : Int)) <|
                   M.chk ((0 : Int) ≤ k1 ∧ k1 < (((atD p1.Funcs i1).Code).length : Int)) <|
                   M.call (r04_Add (atD out2 i1) ((atD ((atD p1.Funcs i1).Code) k1).A)) fun x1 =>
                   M.chk ((0 : Int) ≤ i1 ∧ i1 < (out2.length : Int)) <|
                   M.chk (okI (k1 + 1)) <|
                   again2 ((k1 + 1), (setD out2 i1 x1)))
                  (M.chk (okI (k1 + 1)) <|
                   again2 ((k1 + 1), out2)))
               (M.chk (okI (i1 + 1)) <|
                again1 ((i1 + 1), out2))) (0, out1))
        (M.ret out1)) (0, (repD (p1.Funcs.length : Int) : List (List Int)))
def r04_Same (a1 : List Int) (b1 : List Int) : M (Bool) :=
  M.bif (!decide ((a1.length : Int) = (b1.length : Int)))
    (M.ret false)
    (M.loop (fun again1 (i1 : Int) =>
         M.bif (decide (i1 < (a1.length : Int)))
           (M.chk ((0 : Int) ≤ i1 ∧ i1 < (a1.length : Int)) <|
            M.chk ((0 : Int) ≤ i1 ∧ i1 < (b1.length : Int)) <|
            M.bif (!decide ((atD a1 i1) = (atD b1 i1)))
              (M.ret false)
              (M.chk (okI (i1 + 1)) <|
               again1 (i1 + 1)))
           (M.ret true)) 0)
def r04_SameAll (a1 : List (List Int)) (b1 : List (List Int)) : M (Bool) :=
  M.bif (!decide ((a1.length : Int) = (b1.length : Int)))
    (M.ret false)
    (M.loop (fun again1 (i1 : Int) =>
         M.bif (decide (i1 < (a1.length : Int)))
           (M.chk ((0 : Int) ≤ i1 ∧ i1 < (a1.length : Int)) <|
            M.chk ((0 : Int) ≤ i1 ∧ i1 < (b1.length : Int)) <|
            M.call (r04_Same (atD a1 i1) (atD b1 i1)) fun x1 =>
            M.bif (!x1)
              (M.ret false)
              (M.chk (okI (i1 + 1)) <|
               again1 (i1 + 1)))
           (M.ret true)) 0)
def law27_CallgraphOf (codes1 : List Int) (i1 : Int) (j1 : Int) : M (Bool) :=
  M.call (law27_awake) fun x1 =>
  M.bif (!x1)
    (M.ret false)
    (M.call (draw_New codes1 300) fun x2 =>
     M.call (draw_Program x2 6 12) fun x3 =>
     M.join (fun (p1 : AProgram) =>
         M.loop (fun again1 (a1 : Int) =>
             M.bif (decide (a1 < (p1.Funcs.length : Int)))
               (M.loop (fun again2 (b1 : Int) =>
                    M.bif (decide (b1 < (p1.Funcs.length : Int)))
                      (M.call (callgraph_Calls p1 a1 b1) fun x4 =>
                       M.call (r27_Calls p1 a1 b1) fun x5 =>
                       M.bif (!decide (x4 = x5))
                         (M.ret false)
                         (M.chk (okI (b1 + 1)) <|
                          again2 (b1 + 1)))
                      (M.chk (okI (a1 + 1)) <|
                       again1 (a1 + 1))) 0)
               (M.call (callgraph_Of p1) fun x6 =>
                M.call (r27_Of p1) fun x7 =>
                M.call (r04_SameAll x6 x7) fun x8 =>
                M.bif x8
                  (M.call (callgraph_Calls p1 i1 j1) fun x9 =>
                   M.call (r27_Calls p1 i1 j1) fun x10 =>
                   M.ret (decide (x9 = x10)))
                  (M.ret false))) 0) fun k1 =>
     M.call (draw_Next x3.2 2) fun x11 =>
     M.bif (decide (x11.1 = 1))
       (M.call (draw_Cyclic x11.2 x3.1) fun x12 =>
        k1 x12.1)
       (k1 x3.1))
def callgraph_Check (g1 : List (List Int)) : M (Bool) :=
  M.loop (fun again1 (x1 : Int) =>
      M.bif (decide (x1 < (g1.length : Int)))
        (M.chk ((0 : Int) ≤ x1 ∧ x1 < (g1.length : Int)) <|
         M.call (bitset_Check (atD g1 x1)) fun x2 =>
         M.bif (!x2)
           (M.ret false)
           (M.bif (decide (0 < ((atD g1 x1).length : Int)))
              (M.chk (okI (((atD g1 x1).length : Int) - 1)) <|
               M.chk ((0 : Int) ≤ (((atD g1 x1).length : Int) - 1) ∧ (((atD g1 x1).length : Int) - 1) < ((atD g1 x1).length : Int)) <|
               M.bif (decide ((g1.length : Int) ≤ (atD (atD g1 x1) (((atD g1 x1).length : Int) - 1))))
                 (M.ret false)
                 (M.chk (okI (x1 + 1)) <|
                  again1 (x1 + 1)))
              (M.chk (okI (x1 + 1)) <|
               again1 (x1 + 1))))
        (M.bif (decide (1 ≤ (g1.length : Int)))
           (M.ret (decide ((g1.length : Int) ≤ 80)))
           (M.ret false))) 0
def r04_Has (s1 : List Int) (n1 : Int) : M (Bool) :=
  M.loop (fun again1 (i1 : Int) =>
      M.bif (decide (i1 < (s1.length : Int)))
        (M.chk ((0 : Int) ≤ i1 ∧ i1 < (s1.length : Int)) <|
         M.bif (decide ((atD s1 i1) = n1))
           (M.ret true)
           (M.chk (okI (i1 + 1)) <|
            again1 (i1 + 1)))
        (M.ret false)) 0
def law27_CallgraphEdgesAreCalls (codes1 : List Int) : M (Bool) :=
  M.call (law27_awake) fun x1 =>
  M.bif (!x1)
    (M.ret false)
    (M.call (draw_New codes1 300) fun x2 =>
     M.call (draw_Program x2 6 12) fun x3 =>
     M.call (draw_Cyclic x3.2 x3.1) fun x4 =>
     M.call (callgraph_Of x4.1) fun x5 =>
     M.call (callgraph_Check x5) fun x6 =>
     M.bif (!x6)
       (M.ret false)
       (M.bif (!decide ((x5.length : Int) = (x4.1.Funcs.length : Int)))
          (M.ret false)
          (M.loop (fun again1 (a1 : Int) =>
               M.bif (decide (a1 < (x5.length : Int)))
                 (M.loop (fun again2 (b1 : Int) =>
                      M.bif (decide (b1 < (x5.length : Int)))
                        (M.chk ((0 : Int) ≤ a1 ∧ a1 < (x5.length : Int)) <|
                         M.call (r04_Has (atD x5 a1) b1) fun x7 =>
                         M.call (callgraph_Calls x4.1 a1 b1) fun x8 =>
                         M.bif (x7 != (decide (0 < x8)))
                           (M.ret false)
                           (M.chk (okI (b1 + 1)) <|
                            again2 (b1 + 1)))
                        (M.chk (okI (a1 + 1)) <|
                         again1 (a1 + 1))) 0)
                 (M.ret true)) 0)))
def draw_Graph (c1 : DCodes) (most1 : Int) (free1 : Bool) : M (List (List Int) × DCodes) :=
  M.call (draw_Next c1 most1) fun x1 =>
  M.chk (okI ((1 : Int) + x1.1)) <|
  M.chk ((0 : Int) ≤ ((1 : Int) + x1.1) ∧ ((1 : Int) + x1.1) < 1000000000000) <|
  M.loop (fun again1 ((i1, c2, g1) : Int × DCodes × List (List Int)) =>
      M.bif (decide (i1 < ((1 : Int) + x1.1)))
        (M.call (draw_Next c2 4) fun x2 =>
         M.loop (fun again2 ((k1, c3, g2) : Int × DCodes × List (List Int)) =>
             M.bif (decide (0 < k1))
               (M.call (draw_Next c3 ((1 : Int) + x1.1)) fun x3 =>
                M.join (fun ((j1, c4) : Int × DCodes) =>
                    M.bif (!free1)
                      (M.chk ((0 : Int) ≤ i1 ∧ i1 < (g2.length : Int)) <|
                       M.call (r04_Add (atD g2 i1) j1) fun x4 =>
                       M.chk ((0 : Int) ≤ i1 ∧ i1 < (g2.length : Int)) <|
                       M.chk (okI (k1 - 1)) <|
                       again2 ((k1 - 1), c4, (setD g2 i1 x4)))
                      (M.chk (okI (i1 + 1)) <|
                       M.bif (decide ((i1 + 1) < ((1 : Int) + x1.1)))
                         (M.chk ((0 : Int) ≤ i1 ∧ i1 < (g2.length : Int)) <|
                          M.call (r04_Add (atD g2 i1) j1) fun x5 =>
                          M.chk ((0 : Int) ≤ i1 ∧ i1 < (g2.length : Int)) <|
                          M.chk (okI (k1 - 1)) <|
                          again2 ((k1 - 1), c4, (setD g2 i1 x5)))
                         (M.chk (okI (k1 - 1)) <|
                          again2 ((k1 - 1), c4, g2)))) fun k2 =>
                M.bif free1
                  (M.chk (okI (i1 + 1)) <|
                   M.bif (decide ((i1 + 1) < ((1 : Int) + x1.1)))
                     (M.chk (okI (i1 + 1)) <|
                      M.chk (okI (((1 : Int) + x1.1) - i1)) <|
                      M.chk (okI ((((1 : Int) + x1.1) - i1) - 1)) <|
                      M.call (draw_Next x3.2 ((((1 : Int) + x1.1) - i1) - 1)) fun x6 =>
                      M.chk (okI ((i1 + 1) + x6.1)) <|
                      k2 (((i1 + 1) + x6.1), x6.2))
                     (k2 (x3.1, x3.2)))
                  (k2 (x3.1, x3.2)))
               (M.chk (okI (i1 + 1)) <|
                again1 ((i1 + 1), c3, g2))) (x2.1, x2.2, g1))
        (M.ret (g1, c2))) (0, x1.2, (repD ((1 : Int) + x1.1) : List (List Int)))
def r04_Check (s1 : List Int) : M (Bool) :=
  M.loop (fun again1 (i1 : Int) =>
      M.bif (decide (i1 < (s1.length : Int)))
        (M.chk ((0 : Int) ≤ i1 ∧ i1 < (s1.length : Int)) <|
         M.call (r04_good (atD s1 i1)) fun x1 =>
         M.bif (!x1)
           (M.ret false)
           (M.bif (decide (0 < i1))
              (M.chk ((0 : Int) ≤ i1 ∧ i1 < (s1.length : Int)) <|
               M.chk (okI (i1 - 1)) <|
               M.chk ((0 : Int) ≤ (i1 - 1) ∧ (i1 - 1) < (s1.length : Int)) <|
               M.bif (decide ((atD s1 i1) ≤ (atD s1 (i1 - 1))))
                 (M.ret false)
                 (M.chk (okI (i1 + 1)) <|
                  again1 (i1 + 1)))
              (M.chk (okI (i1 + 1)) <|
               again1 (i1 + 1))))
        (M.ret true)) 0
def r27_Check (g1 : List (List Int)) : M (Bool) :=
  M.bif (decide ((g1.length : Int) < 1))
    (M.ret false)
    (M.bif (decide (80 < (g1.length : Int)))
       (M.ret false)
       (M.loop (fun again1 (i1 : Int) =>
            M.bif (decide (i1 < (g1.length : Int)))
              (M.chk ((0 : Int) ≤ i1 ∧ i1 < (g1.length : Int)) <|
               M.call (r04_Check (atD g1 i1)) fun x1 =>
               M.bif (!x1)
                 (M.ret false)
                 (M.chk ((0 : Int) ≤ i1 ∧ i1 < (g1.length : Int)) <|
                  M.bif (decide (0 < ((atD g1 i1).length : Int)))
                    (M.chk ((0 : Int) ≤ i1 ∧ i1 < (g1.length : Int)) <|
                     M.chk ((0 : Int) ≤ i1 ∧ i1 < (g1.length : Int)) <|
                     M.chk (okI (((atD g1 i1).length : Int) - 1)) <|
                     M.chk ((0 : Int) ≤ (((atD g1 i1).length : Int) - 1) ∧ (((atD g1 i1).length : Int) - 1) < ((atD g1 i1).length : Int)) <|
                     M.bif (decide ((g1.length : Int) ≤ (atD (atD g1 i1) (((atD g1 i1).length : Int) - 1))))
                       (M.ret false)
                       (M.chk (okI (i1 + 1)) <|
                        again1 (i1 + 1)))
                    (M.chk (okI (i1 + 1)) <|
                     again1 (i1 + 1))))
              (M.ret true)) 0))
def law27_CallgraphCheck (g1 : List (List Int)) (codes1 : List Int) : M (Bool) :=
  M.call (law27_awake) fun x1 =>
  M.bif (!x1)
    (M.ret (decide (200 < (g1.length : Int))))
    (M.bif (decide (200 < (g1.length : Int)))
       (M.ret (decide (200 < (g1.length : Int))))
       (M.call (draw_New codes1 60) fun x2 =>
        M.call (draw_Graph x2 9 false) fun x3 =>
        M.chk ((0 : Int) ≤ 81 ∧ (81 : Int) < 1000000000000) <|
        M.call (callgraph_Check g1) fun x4 =>
        M.call (r27_Check g1) fun x5 =>
        M.bif (x4 == x5)
          (M.call (callgraph_Check x3.1) fun x6 =>
           M.bif x6
             (M.call (callgraph_Check []) fun x7 =>
              M.bif (!x7)
                (M.call (callgraph_Check (repD 81 : List (List Int))) fun x8 =>
                 M.bif (!x8)
                   (M.chk ((0 : Int) ≤ 1 ∧ 1 ≤ ((repD 81 : List (List Int)).length : Int) ∧ ((repD 81 : List (List Int)).length : Int) ≤ ((repD 81 : List (List Int)).length : Int)) <|
                    M.call (callgraph_Check (sliceD (repD 81 : List (List Int)) 1 ((repD 81 : List (List Int)).length : Int))) fun x9 =>
                    M.ret x9)
                   (M.ret false))
                (M.ret false))
             (M.ret false))
          (M.ret false)))
def callgraph_Reach (g1 : List (List Int)) (from1 : Int) : M (List Int) :=
  M.bif (decide (from1 < 0))
    (M.ret ([] : List Int))
    (M.bif (decide ((g1.length : Int) ≤ from1))
       (M.ret ([] : List Int))
       (M.loop (fun again1 ((seen1, open1) : List Int × List Int) =>
            M.bif (decide (0 < (open1.length : Int)))
              (M.chk (okI ((open1.length : Int) - 1)) <|
               M.chk ((0 : Int) ≤ ((open1.length : Int) - 1) ∧ ((open1.length : Int) - 1) < (open1.length : Int)) <|
               M.chk (okI ((open1.length : Int) - 1)) <|
               M.chk ((0 : Int) ≤ ((open1.length : Int) - 1) ∧ ((open1.length : Int) - 1) ≤ (open1.length : Int)) <|
               M.call (bitset_Has seen1 (atD open1 ((open1.length : Int) - 1))) fun x1 =>
               M.bif (!x1)
                 (M.call (bitset_Add seen1 (atD open1 ((open1.length : Int) - 1))) fun x2 =>
                  M.chk ((0 : Int) ≤ (atD open1 ((open1.length : Int) - 1)) ∧ (atD open1 ((open1.length : Int) - 1)) < (g1.length : Int)) <|
                  M.chk ((sliceD open1 0 ((open1.length : Int) - 1)).length + (atD g1 (atD open1 ((open1.length : Int) - 1))).length < 1000000000000) <|
                  again1 (x2, ((sliceD open1 0 ((open1.length : Int) - 1)) ++ (atD g1 (atD open1 ((open1.length : Int) - 1))))))
                 (again1 (seen1, (sliceD open1 0 ((open1.length : Int) - 1)))))
              (M.ret seen1)) (([] : List Int), ([from1] : List Int))))
def r04_Union (a1 : List Int) (b1 : List Int) : M (List Int) :=
  M.chk (a1.length < 1000000000000) <|
  M.loop (fun again1 ((out1, i1) : List Int × Int) =>
      M.bif (decide (i1 < (b1.length : Int)))
        (M.chk ((0 : Int) ≤ i1 ∧ i1 < (b1.length : Int)) <|
         M.call (r04_Add out1 (atD b1 i1)) fun x1 =>
         M.chk (okI (i1 + 1)) <|
         again1 (x1, (i1 + 1)))
        (M.ret out1)) (a1, 0)
def r27_Reach (g1 : List (List Int)) (from1 : Int) : M (List Int) :=
  M.bif (decide (from1 < 0))
    (M.ret ([] : List Int))
    (M.bif (decide ((g1.length : Int) ≤ from1))
       (M.ret ([] : List Int))
       (M.loop (fun again2 ((out1, again1) : List Int × Bool) =>
            M.bif again1
              (M.loop (fun again4 ((out2, again3, i1) : List Int × Bool × Int) =>
                   M.bif (decide (i1 < (g1.length : Int)))
                     (M.chk ((0 : Int) ≤ i1 ∧ i1 < (g1.length : Int)) <|
                      M.call (r04_Union out2 (atD g1 i1)) fun x1 =>
                      M.call (r04_Has out2 i1) fun x2 =>
                      M.bif x2
                        (M.bif (decide ((out2.length : Int) < (x1.length : Int)))
                           (M.chk (okI (i1 + 1)) <|
                            again4 (x1, true, (i1 + 1)))
                           (M.chk (okI (i1 + 1)) <|
                            again4 (out2, again3, (i1 + 1))))
                        (M.chk (okI (i1 + 1)) <|
                         again4 (out2, again3, (i1 + 1))))
                     (again2 (out2, again3))) (out1, false, 0))
              (M.ret out1)) (([from1] : List Int), true)))
def callgraph_Turn (g1 : List (List Int)) : M (List (List Int)) :=
  M.chk ((0 : Int) ≤ (g1.length : Int) ∧ (g1.length : Int) < 1000000000000) <|
  M.loop (fun again1 ((x1, out1) : Int × List (List Int)) =>
      M.bif (decide (x1 < (g1.length : Int)))
        (M.chk ((0 : Int) ≤ x1 ∧ x1 < (g1.length : Int)) <|
         M.loop (fun again2 ((x2, out2) : Int × List (List Int)) =>
             M.bif (decide (x2 < ((atD g1 x1).length : Int)))
               (M.chk ((0 : Int) ≤ x2 ∧ x2 < ((atD g1 x1).length : Int)) <|
                M.chk ((0 : Int) ≤ (atD (atD g1 x1) x2) ∧ (atD (atD g1 x1) x2) < (out2.length : Int)) <|
                M.chk ((atD out2 (atD (atD g1 x1) x2)).length + ([x1] : List Int).length < 1000000000000) <|
                M.chk ((0 : Int) ≤ (atD (atD g1 x1) x2) ∧ (atD (atD g1 x1) x2) < (out2.length : Int)) <|
                M.chk (okI (x2 + 1)) <|
                again2 ((x2 + 1), (setD out2 (atD (atD g1 x1) x2) ((atD out2 (atD (atD g1 x1) x2)) ++ ([x1] : List Int)))))
               (M.chk (okI (x1 + 1)) <|
                again1 ((x1 + 1), out2))) (0, out1))
        (M.ret out1)) (0, (repD (g1.length : Int) : List (List Int)))
def r27_Turn (g1 : List (List Int)) : M (List (List Int)) :=
  M.chk ((0 : Int) ≤ (g1.length : Int) ∧ (g1.length : Int) < 1000000000000) <|
  M.loop (fun again1 ((i1, out1) : Int × List (List Int)) =>
      M.bif (decide (i1 < (g1.length : Int)))
        (M.loop (fun again2 ((k1, out2) : Int × List (List Int)) =>
             M.chk ((0 : Int) ≤ i1 ∧ i1 < (g1.length : Int)) <|
             M.bif (decide (k1 < ((atD g1 i1).length : Int)))
               (M.chk ((0 : Int) ≤ i1 ∧ i1 < (g1.length : Int)) <|
                M.chk ((0 : Int) ≤ k1 ∧ k1 < ((atD g1 i1).length : Int)) <|
                M.chk ((0 : Int) ≤ i1 ∧ i1 < (g1.length : Int)) <|
                M.chk ((0 : Int) ≤ k1 ∧ k1 < ((atD g1 i1).length : Int)) <|
                M.chk ((0 : Int) ≤ (atD (atD g1 i1) k1) ∧ (atD (atD g1 i1) k1) < (out2.length : Int)) <|
                M.chk ((atD out2 (atD (atD g1 i1) k1)).length + ([i1] : List Int).length < 1000000000000) <|
                M.chk ((0 : Int) ≤ (atD (atD g1 i1) k1) ∧ (atD (atD g1 i1) k1) < (out2.length : Int)) <|
                M.chk (okI (k1 + 1)) <|
                again2 ((k1 + 1), (setD out2 (atD (atD g1 i1) k1) ((atD out2 (atD (atD g1 i1) k1)) ++ ([i1] : List Int)))))
               (M.chk (okI (i1 + 1)) <|
                again1 ((i1 + 1), out2))) (0, out1))
        (M.ret out1)) (0, (repD (g1.length : Int) : List (List Int)))
def law27_CallgraphReach (codes1 : List Int) (from1 : Int) : M (Bool) :=
  M.call (law27_awake) fun x1 =>
  M.bif (!x1)
    (M.ret false)
    (M.call (draw_New codes1 100) fun x2 =>
     M.call (draw_Next x2 2) fun x3 =>
     M.call (draw_Graph x3.2 9 (decide (x3.1 = 1))) fun x4 =>
     M.loop (fun again1 (i1 : Int) =>
         M.bif (decide (i1 < (x4.1.length : Int)))
           (M.call (callgraph_Reach x4.1 i1) fun x5 =>
            M.call (r27_Reach x4.1 i1) fun x6 =>
            M.call (r04_Same x5 x6) fun x7 =>
            M.bif (!x7)
              (M.ret false)
              (M.chk (okI (i1 + 1)) <|
               again1 (i1 + 1)))
           (M.call (callgraph_Turn x4.1) fun x8 =>
            M.call (r27_Turn x4.1) fun x9 =>
            M.call (r04_SameAll x8 x9) fun x10 =>
            M.bif x10
              (M.call (callgraph_Reach x4.1 from1) fun x11 =>
               M.call (r27_Reach x4.1 from1) fun x12 =>
               M.call (r04_Same x11 x12) fun x13 =>
               M.ret x13)
              (M.ret false))) 0)
def r04_Minus (a1 : List Int) (b1 : List Int) : M (List Int) :=
  M.loop (fun again1 ((i1, out1) : Int × List Int) =>
      M.bif (decide (i1 < (a1.length : Int)))
        (M.chk ((0 : Int) ≤ i1 ∧ i1 < (a1.length : Int)) <|
         M.call (r04_Has b1 (atD a1 i1)) fun x1 =>
         M.bif (!x1)
           (M.chk ((0 : Int) ≤ i1 ∧ i1 < (a1.length : Int)) <|
            M.chk (out1.length + ([(atD a1 i1)] : List Int).length < 1000000000000) <|
            M.chk (okI (i1 + 1)) <|
            again1 ((i1 + 1), (out1 ++ ([(atD a1 i1)] : List Int))))
           (M.chk (okI (i1 + 1)) <|
            again1 ((i1 + 1), out1)))
        (M.ret out1)) (0, ([] : List Int))
def r04_Within (a1 : List Int) (b1 : List Int) : M (Bool) :=
  M.call (r04_Minus a1 b1) fun x1 =>
  M.ret (decide ((x1.length : Int) = 0))
def law27_CallgraphTurn (codes1 : List Int) : M (Bool) :=
  M.call (law27_awake) fun x1 =>
  M.bif (!x1)
    (M.ret false)
    (M.call (draw_New codes1 100) fun x2 =>
     M.call (draw_Graph x2 9 false) fun x3 =>
     M.call (callgraph_Turn x3.1) fun x4 =>
     M.call (callgraph_Check x4) fun x5 =>
     M.bif (!x5)
       (M.ret false)
       (M.bif (!decide ((x4.length : Int) = (x3.1.length : Int)))
          (M.ret false)
          (M.call (callgraph_Turn x4) fun x6 =>
           M.call (r04_SameAll x6 x3.1) fun x7 =>
           M.bif (!x7)
             (M.ret false)
             (M.loop (fun again1 (i1 : Int) =>
                  M.bif (decide (i1 < (x3.1.length : Int)))
                    (M.call (callgraph_Reach x3.1 i1) fun x8 =>
                     M.call (r04_Has x8 i1) fun x9 =>
                     M.bif (!x9)
                       (M.ret false)
                       (M.loop (fun again2 (j1 : Int) =>
                            M.bif (decide (j1 < (x3.1.length : Int)))
                              (M.call (r04_Has x8 j1) fun x10 =>
                               M.call (callgraph_Reach x4 j1) fun x11 =>
                               M.call (r04_Has x11 i1) fun x12 =>
                               M.bif (x10 != x12)
                                 (M.ret false)
                                 (M.call (r04_Has x8 j1) fun x13 =>
                                  M.bif x13
                                    (M.call (callgraph_Reach x3.1 j1) fun x14 =>
                                     M.call (r04_Within x14 x8) fun x15 =>
                                     M.bif (!x15)
                                       (M.ret false)
                                       (M.chk (okI (j1 + 1)) <|
                                        again2 (j1 + 1)))
                                    (M.chk (okI (j1 + 1)) <|
                                     again2 (j1 + 1))))
                              (M.chk (okI (i1 + 1)) <|
                               again1 (i1 + 1))) 0))
                    (M.ret true)) 0))))
end Go.Proofs.YteifdlklpdjkkaaDoor.Q
