/- The data of the program, and its functions as lifted texts (written by a program). -/
import Derived.Test.YtmefipdgohflmaaDoorPureB
set_option linter.unusedVariables false
namespace Go.Proofs.YtmefipdgohflmaaDoor.Q
/-- What the package bitset does (known by hand). -/
def in512 (n : Int) : Bool := decide (0 ≤ n ∧ n < 512)
def setOf (l : List Int) : List Int := ((List.range 512).filter fun k : Nat => decide ((k : Int) ∈ l)).map fun k : Nat => (k : Int)
/-- In order, all of them in range. -/
def ascS (l : List Int) : Bool := (List.range l.length).all fun j => in512 (l.getD j 0) && (decide (j = 0) || decide (l.getD (j - 1) 0 < l.getD j 0))
def bitset_Has (s : List Int) (n : Int) : M Bool := M.ret (in512 n && decide (n ∈ s))
def bitset_Of (l : List Int) : M (List Int) := M.ret (setOf l)
def bitset_Add (s : List Int) (n : Int) : M (List Int) := M.ret (setOf (s ++ [n]))
def bitset_Remove (s : List Int) (n : Int) : M (List Int) := M.ret (setOf (s.filter fun x => x != n))
def bitset_Union (a b : List Int) : M (List Int) := M.ret (setOf (a ++ b))
def bitset_Meet (a b : List Int) : M (List Int) := M.ret (setOf (a.filter fun x => decide (x ∈ b)))
def bitset_Within (a b : List Int) : M Bool := M.ret (a.all fun x => in512 x && decide (x ∈ b))
def bitset_Check (s : List Int) : M Bool := M.ret (ascS s)
structure DCodes where
  list : List Int
  at_ : Int
  deriving DecidableEq
instance : Inhabited DCodes := ⟨⟨[], 0⟩⟩
structure Cycle_frame where
  function : Int
  rest : List Int
  deriving DecidableEq
instance : Inhabited Cycle_frame := ⟨⟨0, []⟩⟩
structure Bound_bounds where
  g : List (List Int)
  w : List Int
  known : List Bool
  of : List Int
  deriving DecidableEq
instance : Inhabited Bound_bounds := ⟨⟨[], [], [], []⟩⟩
structure AInstr where
  Op : Int
  A : Int
  B : Int
  C : Int
  Imm : Int
  deriving DecidableEq
instance : Inhabited AInstr := ⟨⟨0, 0, 0, 0, 0⟩⟩
structure AFrame where
  Params : Int
  Size : Int
  Code : List AInstr
  deriving DecidableEq
instance : Inhabited AFrame := ⟨⟨0, 0, []⟩⟩
structure ATarget where
  Align : Int
  Frames : List AFrame
  deriving DecidableEq
instance : Inhabited ATarget := ⟨⟨0, []⟩⟩
def cycle_Order (g1 : List (List Int)) : M (List Int × Int) :=
  M.loop (fun again1 ((done1, order1) : List Int × List Int) =>
      M.bif (decide ((order1.length : Int) < (g1.length : Int)))
        (M.join (fun (next1 : Int) =>
             M.bif (decide (next1 < 0))
               (M.ret (([] : List Int), 8))
               (M.chk (order1.length + ([next1] : List Int).length < 1000000000000) <|
                M.call (bitset_Add done1 next1) fun x1 =>
                again1 (x1, (order1 ++ ([next1] : List Int))))) fun k1 =>
         M.loop (fun again2 (x2 : Int) =>
             M.bif (decide (x2 < (g1.length : Int)))
               (M.chk ((0 : Int) ≤ x2 ∧ x2 < (g1.length : Int)) <|
                M.call (bitset_Has done1 x2) fun x3 =>
                M.bif (!x3)
                  (M.call (bitset_Within (atD g1 x2) done1) fun x4 =>
                   M.bif x4
                     (k1 x2)
                     (M.chk (okI (x2 + 1)) <|
                      again2 (x2 + 1)))
                  (M.chk (okI (x2 + 1)) <|
                   again2 (x2 + 1)))
               (k1 (-1))) 0)
        (M.ret (order1, 0))) (([] : List Int), ([] : List Int))
def law28_awake  : M (Bool) :=
  M.call (cycle_Order ([([1] : List Int), ([] : List Int)] : List (List Int))) fun x1 =>
  M.bif (decide (x1.2 = 0))
    (M.bif (decide ((x1.1.length : Int) = 2))
       (M.chk ((0 : Int) ≤ 0 ∧ 0 < (x1.1.length : Int)) <|
        M.ret (decide ((atD x1.1 0) = 1)))
       (M.ret false))
    (M.ret false)
def draw_New (list1 : List Int) (limit1 : Int) : M (DCodes) :=
  M.chk ((0 : Int) ≤ 0 ∧ 0 ≤ (min (list1.length : Int) limit1) ∧ (min (list1.length : Int) limit1) ≤ (list1.length : Int)) <|
  M.ret (⟨(sliceD list1 0 (min (list1.length : Int) limit1)), 0⟩ : DCodes)
def draw_Left (c1 : DCodes) : M (Bool × DCodes) :=
  M.ret ((decide (c1.at_ < (c1.list.length : Int))), c1)
def draw_Next (c1 : DCodes) (n1 : Int) : M (Int × DCodes) :=
  M.call (draw_Left c1) fun x1 =>
  M.bif (!x1.1)
    (M.ret (0, x1.2))
    (M.bif (decide (n1 < 1))
       (M.ret (0, x1.2))
       (M.chk ((0 : Int) ≤ x1.2.at_ ∧ x1.2.at_ < (x1.2.list.length : Int)) <|
        M.chk (okI (atD x1.2.list x1.2.at_)) <|
        M.chk (okI (x1.2.at_ + 1)) <|
        M.chk (okI ((atD x1.2.list x1.2.at_) * n1)) <|
        M.chk ((0 : Int) ≤ ((atD x1.2.list x1.2.at_) * n1) ∧ (0 : Int) < 256 ∧ ((atD x1.2.list x1.2.at_) * n1) ≤ 9223372036854775807) <|
        M.ret ((((atD x1.2.list x1.2.at_) * n1) / 256), (⟨x1.2.list, (x1.2.at_ + 1)⟩ : DCodes))))
def r04_good (n1 : Int) : M (Bool) :=
  M.bif (decide (0 ≤ n1))
    (M.ret (decide (n1 < 512)))
    (M.ret false)
def r04_Add (s1 : List Int) (n1 : Int) : M (List Int) :=
  M.call (r04_good n1) fun x1 =>
  M.loop (fun again1 ((done1, i1, out1) : Bool × Int × List Int) =>
      M.bif (decide (i1 < (s1.length : Int)))
        (M.join (fun ((done2, out2) : Bool × List Int) =>
             M.chk ((0 : Int) ≤ i1 ∧ i1 < (s1.length : Int)) <|
             M.chk (out2.length + ([(atD s1 i1)] : List Int).length < 1000000000000) <|
             M.chk (okI (i1 + 1)) <|
             again1 (done2, (i1 + 1), (out2 ++ ([(atD s1 i1)] : List Int)))) fun k1 =>
         M.bif (!done1)
           (M.chk ((0 : Int) ≤ i1 ∧ i1 < (s1.length : Int)) <|
            M.bif (decide (n1 ≤ (atD s1 i1)))
              (M.chk ((0 : Int) ≤ i1 ∧ i1 < (s1.length : Int)) <|
               M.bif (decide (n1 < (atD s1 i1)))
                 (M.chk (out1.length + ([n1] : List Int).length < 1000000000000) <|
                  k1 (true, (out1 ++ ([n1] : List Int))))
                 (k1 (true, out1)))
              (k1 (done1, out1)))
           (k1 (done1, out1)))
        (M.bif (!done1)
           (M.chk (out1.length + ([n1] : List Int).length < 1000000000000) <|
            M.ret (out1 ++ ([n1] : List Int)))
           (M.ret out1))) ((!x1), 0, ([] : List Int))
def draw_Graph (c1 : DCodes) (most1 : Int) (free1 : Bool) : M (List (List Int) × DCodes) :=
  M.call (draw_Next c1 most1) fun x1 =>
  M.chk (okI ((1 : Int) + x1.1)) <|
  M.chk ((0 : Int) ≤ ((1 : Int) + x1.1) ∧ ((1 : Int) + x1.1) < 1000000000000) <|
  M.loop (fun again1 ((i1, c2, g1) : Int × DCodes × List (List Int)) =>
      M.bif (decide (i1 < ((1 : Int) + x1.1)))
        (M.call (draw_Next c2 4) fun x2 =>
         M.loop (fun again2 ((k1, c3, g2) : Int × DCodes × List (List Int)) =>
             M.bif (decide (0 < k1))
               (M.call (draw_Next c3 ((1 : Int) + x1.1)) fun x3 =>
                M.join (fun ((j1, c4) : Int × DCodes) =>
                    M.bif (!free1)
                      (M.chk ((0 : Int) ≤ i1 ∧ i1 < (g2.length : Int)) <|
                       M.call (r04_Add (atD g2 i1) j1) fun x4 =>
                       M.chk ((0 : Int) ≤ i1 ∧ i1 < (g2.length : Int)) <|
                       M.chk (okI (k1 - 1)) <|
                       again2 ((k1 - 1), c4, (setD g2 i1 x4)))
                      (M.chk (okI (i1 + 1)) <|
                       M.bif (decide ((i1 + 1) < ((1 : Int) + x1.1)))
                         (M.chk ((0 : Int) ≤ i1 ∧ i1 < (g2.length : Int)) <|
                          M.call (r04_Add (atD g2 i1) j1) fun x5 =>
                          M.chk ((0 : Int) ≤ i1 ∧ i1 < (g2.length : Int)) <|
                          M.chk (okI (k1 - 1)) <|
                          again2 ((k1 - 1), c4, (setD g2 i1 x5)))
                         (M.chk (okI (k1 - 1)) <|
                          again2 ((k1 - 1), c4, g2)))) fun k2 =>
                M.bif free1
                  (M.chk (okI (i1 + 1)) <|
                   M.bif (decide ((i1 + 1) < ((1 : Int) + x1.1)))
                     (M.chk (okI (i1 + 1)) <|
                      M.chk (okI (((1 : Int) + x1.1) - i1)) <|
                      M.chk (okI ((((1 : Int) + x1.1) - i1) - 1)) <|
                      M.call (draw_Next x3.2 ((((1 : Int) + x1.1) - i1) - 1)) fun x6 =>
                      M.chk (okI ((i1 + 1) + x6.1)) <|
                      k2 (((i1 + 1) + x6.1), x6.2))
                     (k2 (x3.1, x3.2)))
                  (k2 (x3.1, x3.2)))
               (M.chk (okI (i1 + 1)) <|
                again1 ((i1 + 1), c3, g2))) (x2.1, x2.2, g1))
        (M.ret (g1, c2))) (0, x1.2, (repD ((1 : Int) + x1.1) : List (List Int)))
def law28_scene (codes1 : List Int) : M (List (List Int)) :=
  M.call (draw_New codes1 100) fun x1 =>
  M.call (draw_Next x1 2) fun x2 =>
  M.call (draw_Graph x2.2 9 (decide (x2.1 = 1))) fun x3 =>
  M.ret x3.1
def r04_Has (s1 : List Int) (n1 : Int) : M (Bool) :=
  M.loop (fun again1 (i1 : Int) =>
      M.bif (decide (i1 < (s1.length : Int)))
        (M.chk ((0 : Int) ≤ i1 ∧ i1 < (s1.length : Int)) <|
         M.bif (decide ((atD s1 i1) = n1))
           (M.ret true)
           (M.chk (okI (i1 + 1)) <|
            again1 (i1 + 1)))
        (M.ret false)) 0
def r04_Minus (a1 : List Int) (b1 : List Int) : M (List Int) :=
  M.loop (fun again1 ((i1, out1) : Int × List Int) =>
      M.bif (decide (i1 < (a1.length : Int)))
        (M.chk ((0 : Int) ≤ i1 ∧ i1 < (a1.length : Int)) <|
         M.call (r04_Has b1 (atD a1 i1)) fun x1 =>
         M.bif (!x1)
           (M.chk ((0 : Int) ≤ i1 ∧ i1 < (a1.length : Int)) <|
            M.chk (out1.length + ([(atD a1 i1)] : List Int).length < 1000000000000) <|
            M.chk (okI (i1 + 1)) <|
            again1 ((i1 + 1), (out1 ++ ([(atD a1 i1)] : List Int))))
           (M.chk (okI (i1 + 1)) <|
            again1 ((i1 + 1), out1)))
        (M.ret out1)) (0, ([] : List Int))
def r04_Within (a1 : List Int) (b1 : List Int) : M (Bool) :=
  M.call (r04_Minus a1 b1) fun x1 =>
  M.ret (decide ((x1.length : Int) = 0))
def r28_Order (g1 : List (List Int)) : M (List Int × Int) :=
  M.loop (fun again1 ((done1, out1) : List Int × List Int) =>
      M.bif (decide ((out1.length : Int) < (g1.length : Int)))
        (M.join (fun (next1 : Int) =>
             M.bif (decide (next1 < 0))
               (M.ret (([] : List Int), 8))
               (M.chk (out1.length + ([next1] : List Int).length < 1000000000000) <|
                M.call (r04_Add done1 next1) fun x1 =>
                again1 (x1, (out1 ++ ([next1] : List Int))))) fun k1 =>
         M.loop (fun again2 ((next2, i1) : Int × Int) =>
             M.bif (decide (i1 < (g1.length : Int)))
               (M.bif (decide (next2 < 0))
                  (M.call (r04_Has done1 i1) fun x2 =>
                   M.bif (!x2)
                     (M.chk ((0 : Int) ≤ i1 ∧ i1 < (g1.length : Int)) <|
                      M.call (r04_Within (atD g1 i1) done1) fun x3 =>
                      M.bif x3
                        (M.chk (okI (i1 + 1)) <|
                         again2 (i1, (i1 + 1)))
                        (M.chk (okI (i1 + 1)) <|
                         again2 (next2, (i1 + 1))))
                     (M.chk (okI (i1 + 1)) <|
                      again2 (next2, (i1 + 1))))
                  (k1 next2))
               (k1 next2)) ((-1), 0))
        (M.ret (out1, 0))) (([] : List Int), ([] : List Int))
def callgraph_Turn (g1 : List (List Int)) : M (List (List Int)) :=
  M.chk ((0 : Int) ≤ (g1.length : Int) ∧ (g1.length : Int) < 1000000000000) <|
  M.loop (fun again1 ((x1, out1) : Int × List (List Int)) =>
      M.bif (decide (x1 < (g1.length : Int)))
        (M.chk ((0 : Int) ≤ x1 ∧ x1 < (g1.length : Int)) <|
         M.loop (fun again2 ((x2, out2) : Int × List (List Int)) =>
             M.bif (decide (x2 < ((atD g1 x1).length : Int)))
               (M.chk ((0 : Int) ≤ x2 ∧ x2 < ((atD g1 x1).length : Int)) <|
                M.chk ((0 : Int) ≤ (atD (atD g1 x1) x2) ∧ (atD (atD g1 x1) x2) < (out2.length : Int)) <|
                M.chk ((atD out2 (atD (atD g1 x1) x2)).length + ([x1] : List Int).length < 1000000000000) <|
                M.chk ((0 : Int) ≤ (atD (atD g1 x1) x2) ∧ (atD (atD g1 x1) x2) < (out2.length : Int)) <|
                M.chk (okI (x2 + 1)) <|
                again2 ((x2 + 1), (setD out2 (atD (atD g1 x1) x2) ((atD out2 (atD (atD g1 x1) x2)) ++ ([x1] : List Int)))))
               (M.chk (okI (x1 + 1)) <|
                again1 ((x1 + 1), out2))) (0, out1))
        (M.ret out1)) (0, (repD (g1.length : Int) : List (List Int)))
def bits_Mul64 (x1 : Int) (y1 : Int) : M (Int × Int) :=
  M.chk ((0 : Int) ≤ 32 ∧ (32 : Int) ≤ 64) <|
  M.chk ((0 : Int) ≤ 32 ∧ (32 : Int) ≤ 64) <|
  M.chk ((0 : Int) ≤ (Go.bits .and .u64 x1 4294967295) * (Go.bits .and .u64 y1 4294967295) ∧ (Go.bits .and .u64 x1 4294967295) * (Go.bits .and .u64 y1 4294967295) ≤ 18446744073709551615) <|
  M.chk ((0 : Int) ≤ (x1 / 2 ^ (32 : Int).toNat) * (Go.bits .and .u64 y1 4294967295) ∧ (x1 / 2 ^ (32 : Int).toNat) * (Go.bits .and .u64 y1 4294967295) ≤ 18446744073709551615) <|
  M.chk ((0 : Int) ≤ 32 ∧ (32 : Int) ≤ 64) <|
  M.chk ((0 : Int) ≤ ((x1 / 2 ^ (32 : Int).toNat) * (Go.bits .and .u64 y1 4294967295)) + (((Go.bits .and .u64 x1 4294967295) * (Go.bits .and .u64 y1 4294967295)) / 2 ^ (32 : Int).toNat) ∧ ((x1 / 2 ^ (32 : Int).toNat) * (Go.bits .and .u64 y1 4294967295)) + (((Go.bits .and .u64 x1 4294967295) * (Go.bits .and .u64 y1 4294967295)) / 2 ^ (32 : Int).toNat) ≤ 18446744073709551615) <|
  M.chk ((0 : Int) ≤ 32 ∧ (32 : Int) ≤ 64) <|
  M.chk ((0 : Int) ≤ (Go.bits .and .u64 x1 4294967295) * (y1 / 2 ^ (32 : Int).toNat) ∧ (Go.bits .and .u64 x1 4294967295) * (y1 / 2 ^ (32 : Int).toNat) ≤ 18446744073709551615) <|
  M.chk ((0 : Int) ≤ (Go.bits .and .u64 (((x1 / 2 ^ (32 : Int).toNat) * (Go.bits .and .u64 y1 4294967295)) + (((Go.bits .and .u64 x1 4294967295) * (Go.bits .and .u64 y1 4294967295)) / 2 ^ (32 : Int).toNat)) 4294967295) + ((Go.bits .and .u64 x1 4294967295) * (y1 / 2 ^ (32 : Int).toNat)) ∧ (Go.bits .and .u64 (((x1 / 2 ^ (32 : Int).toNat) * (Go.bits .and .u64 y1 4294967295)) + (((Go.bits .and .u64 x1 4294967295) * (Go.bits .and .u64 y1 4294967295)) / 2 ^ (32 : Int).toNat)) 4294967295) + ((Go.bits .and .u64 x1 4294967295) * (y1 / 2 ^ (32 : Int).toNat)) ≤ 18446744073709551615) <|
  M.chk ((0 : Int) ≤ (x1 / 2 ^ (32 : Int).toNat) * (y1 / 2 ^ (32 : Int).toNat) ∧ (x1 / 2 ^ (32 : Int).toNat) * (y1 / 2 ^ (32 : Int).toNat) ≤ 18446744073709551615) <|
  M.chk ((0 : Int) ≤ ((x1 / 2 ^ (32 : Int).toNat) * (y1 / 2 ^ (32 : Int).toNat)) + ((((x1 / 2 ^ (32 : Int).toNat) * (Go.bits .and .u64 y1 4294967295)) + (((Go.bits .and .u64 x1 4294967295) * (Go.bits .and .u64 y1 4294967295)) / 2 ^ (32 : Int).toNat)) / 2 ^ (32 : Int).toNat) ∧ ((x1 / 2 ^ (32 : Int).toNat) * (y1 / 2 ^ (32 : Int).toNat)) + ((((x1 / 2 ^ (32 : Int).toNat) * (Go.bits .and .u64 y1 4294967295)) + (((Go.bits .and .u64 x1 4294967295) * (Go.bits .and .u64 y1 4294967295)) / 2 ^ (32 : Int).toNat)) / 2 ^ (32 : Int).toNat) ≤ 18446744073709551615) <|
  M.chk ((0 : Int) ≤ 32 ∧ (32 : Int) ≤ 64) <|
  M.chk ((0 : Int) ≤ (((x1 / 2 ^ (32 : Int).toNat) * (y1 / 2 ^ (32 : Int).toNat)) + ((((x1 / 2 ^ (32 : Int).toNat) * (Go.bits .and .u64 y1 4294967295)) + (((Go.bits .and .u64 x1 4294967295) * (Go.bits .and .u64 y1 4294967295)) / 2 ^ (32 : Int).toNat)) / 2 ^ (32 : Int).toNat)) + (((Go.bits .and .u64 (((x1 / 2 ^ (32 : Int).toNat) * (Go.bits .and .u64 y1 4294967295)) + (((Go.bits .and .u64 x1 4294967295) * (Go.bits .and .u64 y1 4294967295)) / 2 ^ (32 : Int).toNat)) 4294967295) + ((Go.bits .and .u64 x1 4294967295) * (y1 / 2 ^ (32 : Int).toNat))) / 2 ^ (32 : Int).toNat) ∧ (((x1 / 2 ^ (32 : Int).toNat) * (y1 / 2 ^ (32 : Int).toNat)) + ((((x1 / 2 ^ (32 : Int).toNat) * (Go.bits .and .u64 y1 4294967295)) + (((Go.bits .and .u64 x1 4294967295) * (Go.bits .and .u64 y1 4294967295)) / 2 ^ (32 : Int).toNat)) / 2 ^ (32 : Int).toNat)) + (((Go.bits .and .u64 (((x1 / 2 ^ (32 : Int).toNat) * (Go.bits .and .u64 y1 4294967295)) + (((Go.bits .and .u64 x1 4294967295) * (Go.bits .and .u64 y1 4294967295)) / 2 ^ (32 : Int).toNat)) 4294967295) + ((Go.bits .and .u64 x1 4294967295) * (y1 / 2 ^ (32 : Int).toNat))) / 2 ^ (32 : Int).toNat) ≤ 18446744073709551615) <|
  M.chk ((0 : Int) ≤ x1 * y1 ∧ x1 * y1 ≤ 18446744073709551615) <|
  M.ret (((((x1 / 2 ^ (32 : Int).toNat) * (y1 / 2 ^ (32 : Int).toNat)) + ((((x1 / 2 ^ (32 : Int).toNat) * (Go.bits .and .u64 y1 4294967295)) + (((Go.bits .and .u64 x1 4294967295) * (Go.bits .and .u64 y1 4294967295)) / 2 ^ (32 : Int).toNat)) / 2 ^ (32 : Int).toNat)) + (((Go.bits .and .u64 (((x1 / 2 ^ (32 : Int).toNat) * (Go.bits .and .u64 y1 4294967295)) + (((Go.bits .and .u64 x1 4294967295) * (Go.bits .and .u64 y1 4294967295)) / 2 ^ (32 : Int).toNat)) 4294967295) + ((Go.bits .and .u64 x1 4294967295) * (y1 / 2 ^ (32 : Int).toNat))) / 2 ^ (32 : Int).toNat)), (x1 * y1))
def bits_Mul (x1 : Int) (y1 : Int) : M (Int × Int) :=
  M.call (bits_Mul64 x1 y1) fun x2 =>
  M.ret (x2.1, x2.2)
def slices_Repeat___int_int_ (x1 : List Int) (count1 : Int) : M (List Int) :=
  M.bif (decide (count1 < 0))
    (M.chk False (M.none))
    (M.chk ((0 : Int) ≤ (x1.length : Int) ∧ (x1.length : Int) ≤ 18446744073709551615) <|
     M.chk ((0 : Int) ≤ count1 ∧ count1 ≤ 18446744073709551615) <|
     M.call (bits_Mul (x1.length : Int) count1) fun x2 =>
     M.join (fun (x3 : Bool) =>
         M.bif x3
           (M.chk False (M.none))
           (M.chk (okI x2.2) <|
            M.chk ((0 : Int) ≤ x2.2 ∧ x2.2 < 1000000000000) <|
            M.loop (fun again1 ((n1, newslice1) : Int × List Int) =>
                M.bif (decide (n1 < (newslice1.length : Int)))
                  (M.chk ((0 : Int) ≤ n1 ∧ n1 ≤ (newslice1.length : Int) ∧ (newslice1.length : Int) ≤ (newslice1.length : Int) ∧ n1 < (newslice1.length : Int)) <|
                   M.chk ((0 : Int) ≤ (0 : Int) ∧ (0 : Int) ≤ n1 ∧ n1 ≤ (newslice1.length : Int) ∧ (0 : Int) < (newslice1.length : Int)) <|
                   M.chk (n1.toNat + min (n1.toNat - (0 : Int).toNat) ((newslice1.length : Int).toNat - n1.toNat) ≤ newslice1.length ∧ (0 : Int).toNat + min (n1.toNat - (0 : Int).toNat) ((newslice1.length : Int).toNat - n1.toNat) ≤ newslice1.length ∧ 0 < newslice1.length) <|
                   M.chk (okI (n1 + ((min (n1.toNat - (0 : Int).toNat) ((newslice1.length : Int).toNat - n1.toNat) : Nat) : Int))) <|
                   again1 ((n1 + ((min (n1.toNat - (0 : Int).toNat) ((newslice1.length : Int).toNat - n1.toNat) : Nat) : Int)), (putL newslice1 ((n1.toNat : Nat) : Int) ((newslice1.drop (0 : Int).toNat).take (min (n1.toNat - (0 : Int).toNat) ((newslice1.length : Int).toNat - n1.toNat))))))
                  (M.ret newslice1)) (((min x1.length (repD x2.2 : List Int).length : Nat) : Int), (putL (repD x2.2 : List Int) 0 (x1.take (min x1.length (repD x2.2 : List Int).length)))))) fun k1 =>
     M.bif (decide (0 < x2.1))
       (k1 true)
       (k1 (decide (9223372036854775807 < x2.2))))
def cycle_distances (g1 : List (List Int)) (to1 : Int) : M (List Int) :=
  M.call (callgraph_Turn g1) fun x1 =>
  M.call (slices_Repeat___int_int_ ([81] : List Int) (g1.length : Int)) fun x2 =>
  M.chk ((0 : Int) ≤ to1 ∧ to1 < (x2.length : Int)) <|
  M.loop (fun again1 ((d1, que1) : List Int × List Int) =>
      M.bif (decide (0 < (que1.length : Int)))
        (M.chk ((0 : Int) ≤ 0 ∧ 0 < (que1.length : Int)) <|
         M.chk ((0 : Int) ≤ (atD que1 0) ∧ (atD que1 0) < (x1.length : Int)) <|
         M.loop (fun again2 ((x3, d2, que2) : Int × List Int × List Int) =>
             M.bif (decide (x3 < ((atD x1 (atD que1 0)).length : Int)))
               (M.chk ((0 : Int) ≤ x3 ∧ x3 < ((atD x1 (atD que1 0)).length : Int)) <|
                M.chk ((0 : Int) ≤ (atD (atD x1 (atD que1 0)) x3) ∧ (atD (atD x1 (atD que1 0)) x3) < (d2.length : Int)) <|
                M.bif (decide ((atD d2 (atD (atD x1 (atD que1 0)) x3)) = 81))
                  (M.chk ((0 : Int) ≤ 0 ∧ 0 < (que2.length : Int)) <|
                   M.chk ((0 : Int) ≤ (atD que2 0) ∧ (atD que2 0) < (d2.length : Int)) <|
                   M.chk (okI ((atD d2 (atD que2 0)) + 1)) <|
                   M.chk ((0 : Int) ≤ (atD (atD x1 (atD que1 0)) x3) ∧ (atD (atD x1 (atD que1 0)) x3) < (d2.length : Int)) <|
                   M.chk (que2.length + ([(atD (atD x1 (atD que1 0)) x3)] : List Int).length < 1000000000000) <|
                   M.chk (okI (x3 + 1)) <|
                   again2 ((x3 + 1), (setD d2 (atD (atD x1 (atD que1 0)) x3) ((atD d2 (atD que2 0)) + 1)), (que2 ++ [(atD (atD x1 (atD que1 0)) x3)])))
                  (M.chk (okI (x3 + 1)) <|
                   again2 ((x3 + 1), d2, que2)))
               (M.chk ((0 : Int) ≤ 1 ∧ (1 : Int) ≤ (que2.length : Int)) <|
                again1 (d2, (que2.drop (1 : Int).toNat)))) (0, d1, que1))
        (M.ret d1)) ((setD x2 to1 0), ([to1] : List Int))
def cycle_Find_1 (s1 : List Int) (c1 : List Int) : M (Int × Bool × List Int) :=
  M.loop (fun again1 ((best1, found1, x1) : Int × Bool × Int) =>
      M.bif (decide (x1 < (s1.length : Int)))
        (M.chk ((0 : Int) ≤ x1 ∧ x1 < (s1.length : Int)) <|
         M.chk ((0 : Int) ≤ (atD s1 x1) ∧ (atD s1 x1) < (c1.length : Int)) <|
         M.bif (decide ((atD c1 (atD s1 x1)) < 81))
           (M.bif (!found1)
              (M.chk (okI (x1 + 1)) <|
               again1 ((atD s1 x1), true, (x1 + 1)))
              (M.chk ((0 : Int) ≤ (atD s1 x1) ∧ (atD s1 x1) < (c1.length : Int)) <|
               M.chk ((0 : Int) ≤ best1 ∧ best1 < (c1.length : Int)) <|
               M.bif (decide ((atD c1 (atD s1 x1)) < (atD c1 best1)))
                 (M.chk (okI (x1 + 1)) <|
                  again1 ((atD s1 x1), true, (x1 + 1)))
                 (M.chk (okI (x1 + 1)) <|
                  again1 (best1, found1, (x1 + 1)))))
           (M.chk (okI (x1 + 1)) <|
            again1 (best1, found1, (x1 + 1))))
        (M.ret (best1, found1, c1))) (0, false, 0)
def cycle_Find (g1 : List (List Int)) : M (List Int × Bool) :=
  M.loop (fun again1 (x1 : Int) =>
      M.bif (decide (x1 < (g1.length : Int)))
        (M.chk ((0 : Int) ≤ x1 ∧ x1 < (g1.length : Int)) <|
         M.call (cycle_distances g1 x1) fun x2 =>
         M.call (cycle_Find_1 (atD g1 x1) x2) fun x3 =>
         M.bif (!x3.2.1)
           (M.chk (okI (x1 + 1)) <|
            again1 (x1 + 1))
           (M.loop (fun again2 ((next1, v1, way1) : Int × List Int × List Int) =>
                M.bif (!decide (next1 = x1))
                  (M.chk (way1.length + ([next1] : List Int).length < 1000000000000) <|
                   M.chk ((0 : Int) ≤ next1 ∧ next1 < (g1.length : Int)) <|
                   M.call (cycle_Find_1 (atD g1 next1) v1) fun x4 =>
                   again2 (x4.1, x4.2.2, (way1 ++ ([next1] : List Int))))
                  (M.ret (way1, true))) (x3.1, x3.2.2, ([x1] : List Int))))
        (M.ret (([] : List Int), false))) 0
def cycle_Levels (g1 : List (List Int)) : M (List Int × Int) :=
  M.call (cycle_Find g1) fun x1 =>
  M.bif x1.2
    (M.ret (([] : List Int), 8))
    (M.chk ((0 : Int) ≤ (g1.length : Int) ∧ (g1.length : Int) < 1000000000000) <|
     M.chk ((0 : Int) ≤ (g1.length : Int) ∧ (g1.length : Int) < 1000000000000) <|
     M.loop (fun again1 ((x2, level1, known1) : Int × List Int × List Bool) =>
         M.bif (decide (x2 < (g1.length : Int)))
           (M.chk ((0 : Int) ≤ x2 ∧ x2 < (g1.length : Int)) <|
            M.loop (fun again2 ((level2, known2, stack1) : List Int × List Bool × List Cycle_frame) =>
                M.bif (decide (0 < (stack1.length : Int)))
                  (M.chk (okI ((stack1.length : Int) - 1)) <|
                   M.chk ((0 : Int) ≤ ((stack1.length : Int) - 1) ∧ ((stack1.length : Int) - 1) < (stack1.length : Int)) <|
                   M.bif (decide ((((atD stack1 ((stack1.length : Int) - 1)).rest).length : Int) = 0))
                     (M.chk ((0 : Int) ≤ (atD stack1 ((stack1.length : Int) - 1)).function ∧ (atD stack1 ((stack1.length : Int) - 1)).function < (known2.length : Int)) <|
                      M.chk (okI ((stack1.length : Int) - 1)) <|
                      M.chk ((0 : Int) ≤ ((stack1.length : Int) - 1) ∧ ((stack1.length : Int) - 1) ≤ (stack1.length : Int)) <|
                      again2 (level2, (setD known2 ((atD stack1 ((stack1.length : Int) - 1)).function) true), (sliceD stack1 0 ((stack1.length : Int) - 1))))
                     (M.chk ((0 : Int) ≤ (atD stack1 ((stack1.length : Int) - 1)).function ∧ (atD stack1 ((stack1.length : Int) - 1)).function < (known2.length : Int)) <|
                      M.bif (atD known2 ((atD stack1 ((stack1.length : Int) - 1)).function))
                        (M.chk ((0 : Int) ≤ (atD stack1 ((stack1.length : Int) - 1)).function ∧ (atD stack1 ((stack1.length : Int) - 1)).function < (known2.length : Int)) <|
                         M.chk (okI ((stack1.length : Int) - 1)) <|
                         M.chk ((0 : Int) ≤ ((stack1.length : Int) - 1) ∧ ((stack1.length : Int) - 1) ≤ (stack1.length : Int)) <|
                         again2 (level2, (setD known2 ((atD stack1 ((stack1.length : Int) - 1)).function) true), (sliceD stack1 0 ((stack1.length : Int) - 1))))
                        (M.chk ((0 : Int) ≤ 0 ∧ 0 < (((atD stack1 ((stack1.length : Int) - 1)).rest).length : Int)) <|
                         M.chk ((0 : Int) ≤ (atD ((atD stack1 ((stack1.length : Int) - 1)).rest) 0) ∧ (atD ((atD stack1 ((stack1.length : Int) - 1)).rest) 0) < (known2.length : Int)) <|
                         M.bif (!(atD known2 (atD ((atD stack1 ((stack1.length : Int) - 1)).rest) 0)))
                           (M.chk ((0 : Int) ≤ (atD ((atD stack1 ((stack1.length : Int) - 1)).rest) 0) ∧ (atD ((atD stack1 ((stack1.length : Int) - 1)).rest) 0) < (g1.length : Int)) <|
                            M.chk (stack1.length + ([(⟨(atD ((atD stack1 ((stack1.length : Int) - 1)).rest) 0), (atD g1 (atD ((atD stack1 ((stack1.length : Int) - 1)).rest) 0))⟩ : Cycle_frame)] : List Cycle_frame).length < 1000000000000) <|
                            again2 (level2, known2, (stack1 ++ ([(⟨(atD ((atD stack1 ((stack1.length : Int) - 1)).rest) 0), (atD g1 (atD ((atD stack1 ((stack1.length : Int) - 1)).rest) 0))⟩ : Cycle_frame)] : List Cycle_frame))))
                           (M.chk ((0 : Int) ≤ (atD stack1 ((stack1.length : Int) - 1)).function ∧ (atD stack1 ((stack1.length : Int) - 1)).function < (level2.length : Int)) <|
                            M.chk ((0 : Int) ≤ (atD ((atD stack1 ((stack1.length : Int) - 1)).rest) 0) ∧ (atD ((atD stack1 ((stack1.length : Int) - 1)).rest) 0) < (level2.length : Int)) <|
                            M.chk (okI ((atD level2 (atD ((atD stack1 ((stack1.length : Int) - 1)).rest) 0)) + 1)) <|
                            M.chk ((0 : Int) ≤ (atD stack1 ((stack1.length : Int) - 1)).function ∧ (atD stack1 ((stack1.length : Int) - 1)).function < (level2.length : Int)) <|
                            M.chk ((0 : Int) ≤ 1 ∧ 1 ≤ (((atD stack1 ((stack1.length : Int) - 1)).rest).length : Int) ∧ (((atD stack1 ((stack1.length : Int) - 1)).rest).length : Int) ≤ (((atD stack1 ((stack1.length : Int) - 1)).rest).length : Int)) <|
                            again2 ((setD level2 ((atD stack1 ((stack1.length : Int) - 1)).function) (max (atD level2 ((atD stack1 ((stack1.length : Int) - 1)).function)) ((atD level2 (atD ((atD stack1 ((stack1.length : Int) - 1)).rest) 0)) + 1))), known2, (setD stack1 ((stack1.length : Int) - 1) (⟨(atD stack1 ((stack1.length : Int) - 1)).function, (sliceD ((atD stack1 ((stack1.length : Int) - 1)).rest) 1 (((atD stack1 ((stack1.length : Int) - 1)).rest).length : Int))⟩ : Cycle_frame)))))))
                  (M.chk (okI (x2 + 1)) <|
                   again1 ((x2 + 1), level2, known2))) (level1, known1, ([(⟨x2, (atD g1 x2)⟩ : Cycle_frame)] : List Cycle_frame)))
           (M.ret (level1, 0))) (0, (repD (g1.length : Int) : List Int), (repD (g1.length : Int) : List Bool)))
def r28_Levels (g1 : List (List Int)) : M (List Int × Int) :=
  M.call (r28_Order g1) fun x1 =>
  M.bif (!decide (x1.2 = 0))
    (M.ret (([] : List Int), x1.2))
    (M.chk ((0 : Int) ≤ (g1.length : Int) ∧ (g1.length : Int) < 1000000000000) <|
     M.loop (fun again1 ((i1, out1) : Int × List Int) =>
         M.bif (decide (i1 < (x1.1.length : Int)))
           (M.chk ((0 : Int) ≤ i1 ∧ i1 < (x1.1.length : Int)) <|
            M.loop (fun again2 ((k1, out2) : Int × List Int) =>
                M.chk ((0 : Int) ≤ (atD x1.1 i1) ∧ (atD x1.1 i1) < (g1.length : Int)) <|
                M.bif (decide (k1 < ((atD g1 (atD x1.1 i1)).length : Int)))
                  (M.chk ((0 : Int) ≤ (atD x1.1 i1) ∧ (atD x1.1 i1) < (out2.length : Int)) <|
                   M.chk ((0 : Int) ≤ (atD x1.1 i1) ∧ (atD x1.1 i1) < (g1.length : Int)) <|
                   M.chk ((0 : Int) ≤ k1 ∧ k1 < ((atD g1 (atD x1.1 i1)).length : Int)) <|
                   M.chk ((0 : Int) ≤ (atD (atD g1 (atD x1.1 i1)) k1) ∧ (atD (atD g1 (atD x1.1 i1)) k1) < (out2.length : Int)) <|
                   M.chk (okI ((atD out2 (atD (atD g1 (atD x1.1 i1)) k1)) + 1)) <|
                   M.chk ((0 : Int) ≤ (atD x1.1 i1) ∧ (atD x1.1 i1) < (out2.length : Int)) <|
                   M.chk (okI (k1 + 1)) <|
                   again2 ((k1 + 1), (setD out2 (atD x1.1 i1) (max (atD out2 (atD x1.1 i1)) ((atD out2 (atD (atD g1 (atD x1.1 i1)) k1)) + 1)))))
                  (M.chk (okI (i1 + 1)) <|
                   again1 ((i1 + 1), out2))) (0, out1))
           (M.ret (out1, 0))) (0, (repD (g1.length : Int) : List Int)))
def r04_Same (a1 : List Int) (b1 : List Int) : M (Bool) :=
  M.bif (!decide ((a1.length : Int) = (b1.length : Int)))
    (M.ret false)
    (M.loop (fun again1 (i1 : Int) =>
         M.bif (decide (i1 < (a1.length : Int)))
           (M.chk ((0 : Int) ≤ i1 ∧ i1 < (a1.length : Int)) <|
            M.chk ((0 : Int) ≤ i1 ∧ i1 < (b1.length : Int)) <|
            M.bif (!decide ((atD a1 i1) = (atD b1 i1)))
              (M.ret false)
              (M.chk (okI (i1 + 1)) <|
               again1 (i1 + 1)))
           (M.ret true)) 0)
def law28_CycleOrder (codes1 : List Int) : M (Bool) :=
  M.call (law28_awake) fun x1 =>
  M.bif (!x1)
    (M.ret false)
    (M.call (law28_scene codes1) fun x2 =>
     M.call (cycle_Order x2) fun x3 =>
     M.call (r28_Order x2) fun x4 =>
     M.call (cycle_Levels x2) fun x5 =>
     M.call (r28_Levels x2) fun x6 =>
     M.bif (decide (x3.2 = x4.2))
       (M.call (r04_Same x3.1 x4.1) fun x7 =>
        M.bif x7
          (M.bif (decide (x5.2 = x6.2))
             (M.call (r04_Same x5.1 x6.1) fun x8 =>
              M.ret x8)
             (M.ret false))
          (M.ret false))
       (M.ret false))
def r04_Union (a1 : List Int) (b1 : List Int) : M (List Int) :=
  M.chk (a1.length < 1000000000000) <|
  M.loop (fun again1 ((out1, i1) : List Int × Int) =>
      M.bif (decide (i1 < (b1.length : Int)))
        (M.chk ((0 : Int) ≤ i1 ∧ i1 < (b1.length : Int)) <|
         M.call (r04_Add out1 (atD b1 i1)) fun x1 =>
         M.chk (okI (i1 + 1)) <|
         again1 (x1, (i1 + 1)))
        (M.ret out1)) (a1, 0)
def r28_back (g1 : List (List Int)) (i1 : Int) (first1 : Int) (n1 : Int) : M (Bool) :=
  M.loop (fun again1 ((n2, at1) : Int × List Int) =>
      M.bif (decide (0 < n2))
        (M.loop (fun again2 ((next1, k1) : List Int × Int) =>
             M.bif (decide (k1 < (at1.length : Int)))
               (M.chk ((0 : Int) ≤ k1 ∧ k1 < (at1.length : Int)) <|
                M.chk ((0 : Int) ≤ (atD at1 k1) ∧ (atD at1 k1) < (g1.length : Int)) <|
                M.call (r04_Union next1 (atD g1 (atD at1 k1))) fun x1 =>
                M.chk (okI (k1 + 1)) <|
                again2 (x1, (k1 + 1)))
               (M.chk (okI (n2 - 1)) <|
                again1 ((n2 - 1), next1))) (([] : List Int), 0))
        (M.call (r04_Has at1 first1) fun x2 =>
         M.ret x2)) (n1, ([i1] : List Int))
def r28_Find (g1 : List (List Int)) : M (List Int × Bool) :=
  M.loop (fun again1 (first1 : Int) =>
      M.bif (decide (first1 < (g1.length : Int)))
        (M.loop (fun again2 (n2 : Int) =>
             M.bif (decide (n2 ≤ (g1.length : Int)))
               (M.call (r28_back g1 first1 first1 n2) fun x1 =>
                M.bif (!x1)
                  (M.chk (okI (n2 + 1)) <|
                   again2 (n2 + 1))
                  (M.chk (okI (n2 - 1)) <|
                   M.loop (fun again3 ((left1, out1) : Int × List Int) =>
                       M.bif (decide (0 < left1))
                         (M.chk (okI ((out1.length : Int) - 1)) <|
                          M.chk ((0 : Int) ≤ ((out1.length : Int) - 1) ∧ ((out1.length : Int) - 1) < (out1.length : Int)) <|
                          M.chk ((0 : Int) ≤ (atD out1 ((out1.length : Int) - 1)) ∧ (atD out1 ((out1.length : Int) - 1)) < (g1.length : Int)) <|
                          M.loop (fun again4 (k1 : Int) =>
                              M.bif (decide (k1 < ((atD g1 (atD out1 ((out1.length : Int) - 1))).length : Int)))
                                (M.chk ((0 : Int) ≤ k1 ∧ k1 < ((atD g1 (atD out1 ((out1.length : Int) - 1))).length : Int)) <|
                                 M.call (r28_back g1 (atD (atD g1 (atD out1 ((out1.length : Int) - 1))) k1) first1 left1) fun x2 =>
                                 M.bif x2
                                   (M.chk ((0 : Int) ≤ k1 ∧ k1 < ((atD g1 (atD out1 ((out1.length : Int) - 1))).length : Int)) <|
                                    M.chk (out1.length + ([(atD (atD g1 (atD out1 ((out1.length : Int) - 1))) k1)] : List Int).length < 1000000000000) <|
                                    M.chk (okI (left1 - 1)) <|
                                    again3 ((left1 - 1), (out1 ++ ([(atD (atD g1 (atD out1 ((out1.length : Int) - 1))) k1)] : List Int))))
                                   (M.chk (okI (k1 + 1)) <|
                                    again4 (k1 + 1)))
                                (M.chk (okI (left1 - 1)) <|
                                 again3 ((left1 - 1), out1))) 0)
                         (M.ret (out1, true))) ((n2 - 1), ([first1] : List Int))))
               (M.chk (okI (first1 + 1)) <|
                again1 (first1 + 1))) 1)
        (M.ret (([] : List Int), false))) 0
def callgraph_Reach (g1 : List (List Int)) (from1 : Int) : M (List Int) :=
  M.bif (decide (from1 < 0))
    (M.ret ([] : List Int))
    (M.bif (decide ((g1.length : Int) ≤ from1))
       (M.ret ([] : List Int))
       (M.loop (fun again1 ((seen1, open1) : List Int × List Int) =>
            M.bif (decide (0 < (open1.length : Int)))
              (M.chk (okI ((open1.length : Int) - 1)) <|
               M.chk ((0 : Int) ≤ ((open1.length : Int) - 1) ∧ ((open1.length : Int) - 1) < (open1.length : Int)) <|
               M.chk (okI ((open1.length : Int) - 1)) <|
               M.chk ((0 : Int) ≤ ((open1.length : Int) - 1) ∧ ((open1.length : Int) - 1) ≤ (open1.length : Int)) <|
               M.call (bitset_Has seen1 (atD open1 ((open1.length : Int) - 1))) fun x1 =>
               M.bif (!x1)
                 (M.call (bitset_Add seen1 (atD open1 ((open1.length : Int) - 1))) fun x2 =>
                  M.chk ((0 : Int) ≤ (atD open1 ((open1.length : Int) - 1)) ∧ (atD open1 ((open1.length : Int) - 1)) < (g1.length : Int)) <|
                  M.chk ((sliceD open1 0 ((open1.length : Int) - 1)).length + (atD g1 (atD open1 ((open1.length : Int) - 1))).length < 1000000000000) <|
                  again1 (x2, ((sliceD open1 0 ((open1.length : Int) - 1)) ++ (atD g1 (atD open1 ((open1.length : Int) - 1))))))
                 (again1 (seen1, (sliceD open1 0 ((open1.length : Int) - 1)))))
              (M.ret seen1)) (([] : List Int), ([from1] : List Int))))
def cycle_Parts (g1 : List (List Int)) : M (List Int) :=
  M.call (callgraph_Turn g1) fun x1 =>
  M.loop (fun again1 ((x2, l1) : Int × List Int) =>
      M.bif (decide (x2 < (g1.length : Int)))
        (M.call (callgraph_Reach g1 x2) fun x3 =>
         M.call (callgraph_Reach x1 x2) fun x4 =>
         M.call (bitset_Meet x3 x4) fun x5 =>
         M.chk ((0 : Int) ≤ 0 ∧ 0 < (x5.length : Int)) <|
         M.chk (l1.length + ([(atD x5 0)] : List Int).length < 1000000000000) <|
         M.chk (okI (x2 + 1)) <|
         again1 ((x2 + 1), (l1 ++ ([(atD x5 0)] : List Int))))
        (M.ret l1)) (0, ([] : List Int))
def r27_Turn (g1 : List (List Int)) : M (List (List Int)) :=
  M.chk ((0 : Int) ≤ (g1.length : Int) ∧ (g1.length : Int) < 1000000000000) <|
  M.loop (fun again1 ((i1, out1) : Int × List (List Int)) =>
      M.bif (decide (i1 < (g1.length : Int)))
        (M.loop (fun again2 ((k1, out2) : Int × List (List Int)) =>
             M.chk ((0 : Int) ≤ i1 ∧ i1 < (g1.length : Int)) <|
             M.bif (decide (k1 < ((atD g1 i1).length : Int)))
               (M.chk ((0 : Int) ≤ i1 ∧ i1 < (g1.length : Int)) <|
                M.chk ((0 : Int) ≤ k1 ∧ k1 < ((atD g1 i1).length : Int)) <|
                M.chk ((0 : Int) ≤ i1 ∧ i1 < (g1.length : Int)) <|
                M.chk ((0 : Int) ≤ k1 ∧ k1 < ((atD g1 i1).length : Int)) <|
                M.chk ((0 : Int) ≤ (atD (atD g1 i1) k1) ∧ (atD (atD g1 i1) k1) < (out2.length : Int)) <|
                M.chk ((atD out2 (atD (atD g1 i1) k1)).length + ([i1] : List Int).length < 1000000000000) <|
                M.chk ((0 : Int) ≤ (atD (atD g1 i1) k1) ∧ (atD (atD g1 i1) k1) < (out2.length : Int)) <|
                M.chk (okI (k1 + 1)) <|
                again2 ((k1 + 1), (setD out2 (atD (atD g1 i1) k1) ((atD out2 (atD (atD g1 i1) k1)) ++ ([i1] : List Int)))))
               (M.chk (okI (i1 + 1)) <|
                again1 ((i1 + 1), out2))) (0, out1))
        (M.ret out1)) (0, (repD (g1.length : Int) : List (List Int)))
def r27_Reach (g1 : List (List Int)) (from1 : Int) : M (List Int) :=
  M.bif (decide (from1 < 0))
    (M.ret ([] : List Int))
    (M.bif (decide ((g1.length : Int) ≤ from1))
       (M.ret ([] : List Int))
       (M.loop (fun again2 ((out1, again1) : List Int × Bool) =>
            M.bif again1
              (M.loop (fun again4 ((out2, again3, i1) : List Int × Bool × Int) =>
                   M.bif (decide (i1 < (g1.length : Int)))
                     (M.chk ((0 : Int) ≤ i1 ∧ i1 < (g1.length : Int)) <|
                      M.call (r04_Union out2 (atD g1 i1)) fun x1 =>
                      M.call (r04_Has out2 i1) fun x2 =>
                      M.bif x2
                        (M.bif (decide ((out2.length : Int) < (x1.length : Int)))
                           (M.chk (okI (i1 + 1)) <|
                            again4 (x1, true, (i1 + 1)))
                           (M.chk (okI (i1 + 1)) <|
                            again4 (out2, again3, (i1 + 1))))
                        (M.chk (okI (i1 + 1)) <|
                         again4 (out2, again3, (i1 + 1))))
                     (again2 (out2, again3))) (out1, false, 0))
              (M.ret out1)) (([from1] : List Int), true)))
def r04_Meet (a1 : List Int) (b1 : List Int) : M (List Int) :=
  M.loop (fun again1 ((i1, out1) : Int × List Int) =>
      M.bif (decide (i1 < (a1.length : Int)))
        (M.chk ((0 : Int) ≤ i1 ∧ i1 < (a1.length : Int)) <|
         M.call (r04_Has b1 (atD a1 i1)) fun x1 =>
         M.bif x1
           (M.chk ((0 : Int) ≤ i1 ∧ i1 < (a1.length : Int)) <|
            M.chk (out1.length + ([(atD a1 i1)] : List Int).length < 1000000000000) <|
            M.chk (okI (i1 + 1)) <|
            again1 ((i1 + 1), (out1 ++ ([(atD a1 i1)] : List Int))))
           (M.chk (okI (i1 + 1)) <|
            again1 ((i1 + 1), out1)))
        (M.ret out1)) (0, ([] : List Int))
def r28_Parts (g1 : List (List Int)) : M (List Int) :=
  M.call (r27_Turn g1) fun x1 =>
  M.loop (fun again1 ((i1, out1) : Int × List Int) =>
      M.bif (decide (i1 < (g1.length : Int)))
        (M.call (r27_Reach g1 i1) fun x2 =>
         M.call (r27_Reach x1 i1) fun x3 =>
         M.call (r04_Meet x2 x3) fun x4 =>
         M.chk ((0 : Int) ≤ 0 ∧ 0 < (x4.length : Int)) <|
         M.chk (out1.length + ([(atD x4 0)] : List Int).length < 1000000000000) <|
         M.chk (okI (i1 + 1)) <|
         again1 ((i1 + 1), (out1 ++ ([(atD x4 0)] : List Int))))
        (M.ret out1)) (0, ([] : List Int))
def law28_CycleFind (codes1 : List Int) : M (Bool) :=
  M.call (law28_awake) fun x1 =>
  M.bif (!x1)
    (M.ret false)
    (M.call (law28_scene codes1) fun x2 =>
     M.call (cycle_Find x2) fun x3 =>
     M.call (r28_Find x2) fun x4 =>
     M.bif (x3.2 == x4.2)
       (M.call (r04_Same x3.1 x4.1) fun x5 =>
        M.bif x5
          (M.call (cycle_Parts x2) fun x6 =>
           M.call (r28_Parts x2) fun x7 =>
           M.call (r04_Same x6 x7) fun x8 =>
           M.ret x8)
          (M.ret false))
       (M.ret false))
def law28_CycleFoundIsACycle (codes1 : List Int) : M (Bool) :=
  M.call (law28_awake) fun x1 =>
  M.bif (!x1)
    (M.ret false)
    (M.call (law28_scene codes1) fun x2 =>
     M.call (cycle_Find x2) fun x3 =>
     M.call (cycle_Order x2) fun x4 =>
     M.bif (x3.2 != (decide (x4.2 = 8)))
       (M.join (fun (x5 : Bool) =>
            M.ret x5) fun k1 =>
        M.bif (x3.2 == (decide (x4.2 = 8)))
          (M.bif (decide (x4.2 = 0))
             (k1 (decide ((x3.1.length : Int) = 0)))
             (k1 false))
          (k1 false))
       (M.bif (!x3.2)
          (M.join (fun (x6 : Bool) =>
               M.ret x6) fun k2 =>
           M.bif (x3.2 == (decide (x4.2 = 8)))
             (M.bif (decide (x4.2 = 0))
                (k2 (decide ((x3.1.length : Int) = 0)))
                (k2 false))
             (k2 false))
          (M.loop (fun again1 (i1 : Int) =>
               M.bif (decide (i1 < (x3.1.length : Int)))
                 (M.chk ((0 : Int) ≤ 0 ∧ 0 < (x3.1.length : Int)) <|
                  M.join (fun (next1 : Int) =>
                      M.chk ((0 : Int) ≤ i1 ∧ i1 < (x3.1.length : Int)) <|
                      M.bif (decide ((atD x3.1 i1) < 0))
                        (M.ret false)
                        (M.chk ((0 : Int) ≤ i1 ∧ i1 < (x3.1.length : Int)) <|
                         M.bif (decide ((x2.length : Int) ≤ (atD x3.1 i1)))
                           (M.ret false)
                           (M.chk ((0 : Int) ≤ i1 ∧ i1 < (x3.1.length : Int)) <|
                            M.chk ((0 : Int) ≤ (atD x3.1 i1) ∧ (atD x3.1 i1) < (x2.length : Int)) <|
                            M.call (r04_Has (atD x2 (atD x3.1 i1)) next1) fun x7 =>
                            M.bif (!x7)
                              (M.ret false)
                              (M.chk ((0 : Int) ≤ i1 ∧ i1 < (x3.1.length : Int)) <|
                               M.chk ((0 : Int) ≤ 0 ∧ 0 < (x3.1.length : Int)) <|
                               M.bif (decide ((atD x3.1 i1) < (atD x3.1 0)))
                                 (M.ret false)
                                 (M.loop (fun again2 (k4 : Int) =>
                                      M.bif (decide (k4 < i1))
                                        (M.chk ((0 : Int) ≤ k4 ∧ k4 < (x3.1.length : Int)) <|
                                         M.chk ((0 : Int) ≤ i1 ∧ i1 < (x3.1.length : Int)) <|
                                         M.bif (decide ((atD x3.1 k4) = (atD x3.1 i1)))
                                           (M.ret false)
                                           (M.chk (okI (k4 + 1)) <|
                                            again2 (k4 + 1)))
                                        (M.chk (okI (i1 + 1)) <|
                                         again1 (i1 + 1))) 0))))) fun k3 =>
                  M.chk (okI (i1 + 1)) <|
                  M.bif (decide ((i1 + 1) < (x3.1.length : Int)))
                    (M.chk (okI (i1 + 1)) <|
                     M.chk ((0 : Int) ≤ (i1 + 1) ∧ (i1 + 1) < (x3.1.length : Int)) <|
                     k3 (atD x3.1 (i1 + 1)))
                    (k3 (atD x3.1 0)))
                 (M.ret (decide (0 < (x3.1.length : Int))))) 0)))
def law28_CycleOrderIsTopological (codes1 : List Int) : M (Bool) :=
  M.call (law28_awake) fun x1 =>
  M.bif (!x1)
    (M.ret false)
    (M.call (draw_New codes1 100) fun x2 =>
     M.call (draw_Graph x2 12 true) fun x3 =>
     M.call (cycle_Order x3.1) fun x4 =>
     M.call (cycle_Levels x3.1) fun x5 =>
     M.bif (!decide (x4.2 = 0))
       (M.ret false)
       (M.bif (!decide (x5.2 = 0))
          (M.ret false)
          (M.bif (!decide ((x4.1.length : Int) = (x3.1.length : Int)))
             (M.ret false)
             (M.bif (!decide ((x5.1.length : Int) = (x3.1.length : Int)))
                (M.ret false)
                (M.loop (fun again1 ((done1, i1) : List Int × Int) =>
                     M.bif (decide (i1 < (x4.1.length : Int)))
                       (M.chk ((0 : Int) ≤ i1 ∧ i1 < (x4.1.length : Int)) <|
                        M.bif (decide ((atD x4.1 i1) < 0))
                          (M.ret false)
                          (M.chk ((0 : Int) ≤ i1 ∧ i1 < (x4.1.length : Int)) <|
                           M.bif (decide ((x3.1.length : Int) ≤ (atD x4.1 i1)))
                             (M.ret false)
                             (M.chk ((0 : Int) ≤ i1 ∧ i1 < (x4.1.length : Int)) <|
                              M.call (r04_Has done1 (atD x4.1 i1)) fun x6 =>
                              M.bif x6
                                (M.ret false)
                                (M.chk ((0 : Int) ≤ i1 ∧ i1 < (x4.1.length : Int)) <|
                                 M.chk ((0 : Int) ≤ (atD x4.1 i1) ∧ (atD x4.1 i1) < (x3.1.length : Int)) <|
                                 M.call (r04_Within (atD x3.1 (atD x4.1 i1)) done1) fun x7 =>
                                 M.bif (!x7)
                                   (M.ret false)
                                   (M.loop (fun again2 ((most1, k1) : Int × Int) =>
                                        M.chk ((0 : Int) ≤ i1 ∧ i1 < (x4.1.length : Int)) <|
                                        M.chk ((0 : Int) ≤ (atD x4.1 i1) ∧ (atD x4.1 i1) < (x3.1.length : Int)) <|
                                        M.bif (decide (k1 < ((atD x3.1 (atD x4.1 i1)).length : Int)))
                                          (M.chk ((0 : Int) ≤ i1 ∧ i1 < (x4.1.length : Int)) <|
                                           M.chk ((0 : Int) ≤ (atD x4.1 i1) ∧ (atD x4.1 i1) < (x3.1.length : Int)) <|
                                           M.chk ((0 : Int) ≤ k1 ∧ k1 < ((atD x3.1 (atD x4.1 i1)).length : Int)) <|
                                           M.chk ((0 : Int) ≤ (atD (atD x3.1 (atD x4.1 i1)) k1) ∧ (atD (atD x3.1 (atD x4.1 i1)) k1) < (x5.1.length : Int)) <|
                                           M.chk (okI ((atD x5.1 (atD (atD x3.1 (atD x4.1 i1)) k1)) + 1)) <|
                                           M.chk (okI (k1 + 1)) <|
                                           again2 ((max most1 ((atD x5.1 (atD (atD x3.1 (atD x4.1 i1)) k1)) + 1)), (k1 + 1)))
                                          (M.chk ((0 : Int) ≤ i1 ∧ i1 < (x4.1.length : Int)) <|
                                           M.chk ((0 : Int) ≤ (atD x4.1 i1) ∧ (atD x4.1 i1) < (x5.1.length : Int)) <|
                                           M.bif (!decide ((atD x5.1 (atD x4.1 i1)) = most1))
                                             (M.ret false)
                                             (M.chk ((0 : Int) ≤ i1 ∧ i1 < (x4.1.length : Int)) <|
                                              M.call (r04_Add done1 (atD x4.1 i1)) fun x8 =>
                                              M.chk (okI (i1 + 1)) <|
                                              again1 (x8, (i1 + 1))))) (0, 0))))))
                       (M.ret true)) (([] : List Int), 0))))))
def law28_CyclePartsAreComponents (codes1 : List Int) : M (Bool) :=
  M.call (law28_awake) fun x1 =>
  M.bif (!x1)
    (M.ret false)
    (M.call (law28_scene codes1) fun x2 =>
     M.call (cycle_Parts x2) fun x3 =>
     M.bif (!decide ((x3.length : Int) = (x2.length : Int)))
       (M.ret false)
       (M.loop (fun again1 ((loop1, i1) : Bool × Int) =>
            M.bif (decide (i1 < (x2.length : Int)))
              (M.call (r27_Reach x2 i1) fun x4 =>
               M.join (fun (loop2 : Bool) =>
                   M.loop (fun again2 ((loop3, j1) : Bool × Int) =>
                       M.bif (decide (j1 < (x2.length : Int)))
                         (M.call (r04_Has x4 j1) fun x5 =>
                          M.bif x5
                            (M.call (r27_Reach x2 j1) fun x6 =>
                             M.call (r04_Has x6 i1) fun x7 =>
                             M.chk ((0 : Int) ≤ i1 ∧ i1 < (x3.length : Int)) <|
                             M.chk ((0 : Int) ≤ j1 ∧ j1 < (x3.length : Int)) <|
                             M.bif (x7 != (decide ((atD x3 i1) = (atD x3 j1))))
                               (M.ret false)
                               (M.chk ((0 : Int) ≤ i1 ∧ i1 < (x3.length : Int)) <|
                                M.bif (decide (i1 < (atD x3 i1)))
                                  (M.ret false)
                                  (M.bif loop3
                                     (M.chk (okI (j1 + 1)) <|
                                      again2 (true, (j1 + 1)))
                                     (M.bif x7
                                        (M.chk (okI (j1 + 1)) <|
                                         again2 ((!decide (i1 = j1)), (j1 + 1)))
                                        (M.chk (okI (j1 + 1)) <|
                                         again2 (false, (j1 + 1)))))))
                            (M.chk ((0 : Int) ≤ i1 ∧ i1 < (x3.length : Int)) <|
                             M.chk ((0 : Int) ≤ j1 ∧ j1 < (x3.length : Int)) <|
                             M.bif (false != (decide ((atD x3 i1) = (atD x3 j1))))
                               (M.ret false)
                               (M.chk ((0 : Int) ≤ i1 ∧ i1 < (x3.length : Int)) <|
                                M.bif (decide (i1 < (atD x3 i1)))
                                  (M.ret false)
                                  (M.bif loop3
                                     (M.chk (okI (j1 + 1)) <|
                                      again2 (true, (j1 + 1)))
                                     (M.chk (okI (j1 + 1)) <|
                                      again2 (false, (j1 + 1)))))))
                         (M.chk (okI (i1 + 1)) <|
                          again1 (loop3, (i1 + 1)))) (loop2, 0)) fun k1 =>
               M.bif loop1
                 (k1 true)
                 (M.chk ((0 : Int) ≤ i1 ∧ i1 < (x2.length : Int)) <|
                  M.call (r04_Has (atD x2 i1) i1) fun x8 =>
                  k1 x8))
              (M.call (cycle_Find x2) fun x9 =>
               M.ret (x9.2 == loop1))) (false, 0)))
def callgraph_Check (g1 : List (List Int)) : M (Bool) :=
  M.loop (fun again1 (x1 : Int) =>
      M.bif (decide (x1 < (g1.length : Int)))
        (M.chk ((0 : Int) ≤ x1 ∧ x1 < (g1.length : Int)) <|
         M.call (bitset_Check (atD g1 x1)) fun x2 =>
         M.bif (!x2)
           (M.ret false)
           (M.bif (decide (0 < ((atD g1 x1).length : Int)))
              (M.chk (okI (((atD g1 x1).length : Int) - 1)) <|
               M.chk ((0 : Int) ≤ (((atD g1 x1).length : Int) - 1) ∧ (((atD g1 x1).length : Int) - 1) < ((atD g1 x1).length : Int)) <|
               M.bif (decide ((g1.length : Int) ≤ (atD (atD g1 x1) (((atD g1 x1).length : Int) - 1))))
                 (M.ret false)
                 (M.chk (okI (x1 + 1)) <|
                  again1 (x1 + 1)))
              (M.chk (okI (x1 + 1)) <|
               again1 (x1 + 1))))
        (M.bif (decide (1 ≤ (g1.length : Int)))
           (M.ret (decide ((g1.length : Int) ≤ 80)))
           (M.ret false))) 0
def extent_bound (n1 : Int) : M (Bool) :=
  M.bif (decide (0 ≤ n1))
    (M.ret (decide (n1 ≤ 2147483647)))
    (M.ret false)
def extent_limited (n1 : Int) : M (Int × Int) :=
  M.bif (decide (2147483647 < n1))
    (M.ret (0, 9))
    (M.ret (n1, 0))
def extent_Add (x1 : Int) (y1 : Int) : M (Int × Int) :=
  M.call (extent_bound x1) fun x2 =>
  M.bif (!x2)
    (M.ret (0, 4))
    (M.call (extent_bound y1) fun x3 =>
     M.bif (!x3)
       (M.ret (0, 4))
       (M.chk (okI (x1 + y1)) <|
        M.call (extent_limited (x1 + y1)) fun x4 =>
        M.ret (x4.1, x4.2)))
def bound_bounds_bound_body (self : Bound_bounds → Int → M (Int × Int × Bound_bounds)) (b1 : Bound_bounds) (i1 : Int) : M (Int × Int × Bound_bounds) :=
  M.chk ((0 : Int) ≤ i1 ∧ i1 < (b1.known.length : Int)) <|
  M.bif (atD b1.known i1)
    (M.chk ((0 : Int) ≤ i1 ∧ i1 < (b1.of.length : Int)) <|
     M.ret ((atD b1.of i1), 0, b1))
    (M.chk ((0 : Int) ≤ i1 ∧ i1 < (b1.g.length : Int)) <|
     M.loop (fun again1 ((most1, x1, g1, w1, own1, own2) : Int × Int × List (List Int) × List Int × List Bool × List Int) =>
         M.bif (decide (x1 < ((atD b1.g i1).length : Int)))
           (M.chk ((0 : Int) ≤ x1 ∧ x1 < ((atD b1.g i1).length : Int)) <|
            M.call (self (⟨g1, w1, own1, own2⟩ : Bound_bounds) (atD (atD b1.g i1) x1)) fun x2 =>
            M.bif (!decide (x2.2.1 = 0))
              (M.ret (0, x2.2.1, x2.2.2))
              (M.chk (okI (x1 + 1)) <|
               again1 ((max most1 x2.1), (x1 + 1), x2.2.2.g, x2.2.2.w, x2.2.2.known, x2.2.2.of)))
           (M.chk ((0 : Int) ≤ i1 ∧ i1 < (w1.length : Int)) <|
            M.call (extent_Add (atD w1 i1) most1) fun x3 =>
            M.bif (!decide (x3.2 = 0))
              (M.ret (0, x3.2, (⟨g1, w1, own1, own2⟩ : Bound_bounds)))
              (M.chk ((0 : Int) ≤ i1 ∧ i1 < (own2.length : Int)) <|
               M.chk ((0 : Int) ≤ i1 ∧ i1 < (own1.length : Int)) <|
               M.ret (x3.1, 0, (⟨g1, w1, (setD own1 i1 true), (setD own2 i1 x3.1)⟩ : Bound_bounds))))) (0, 0, b1.g, b1.w, b1.known, b1.of))
def bound_bounds_bound_at : Nat → Bound_bounds → Int → M (Int × Int × Bound_bounds)
  | 0 => fun _ _ => M.none
  | depth + 1 => bound_bounds_bound_body (bound_bounds_bound_at depth)
def bound_bounds_bound (b1 : Bound_bounds) (i1 : Int) : M (Int × Int × Bound_bounds) := M.fix fun depth => bound_bounds_bound_at depth b1 i1
def bound_All (g1 : List (List Int)) (w1 : List Int) : M (List Int × Int) :=
  M.call (callgraph_Check g1) fun x1 =>
  M.bif (!x1)
    (M.ret (([] : List Int), 4))
    (M.bif (!decide ((w1.length : Int) = (g1.length : Int)))
       (M.ret (([] : List Int), 4))
       (M.loop (fun again1 (x2 : Int) =>
            M.bif (decide (x2 < (w1.length : Int)))
              (M.chk ((0 : Int) ≤ x2 ∧ x2 < (w1.length : Int)) <|
               M.bif (decide ((atD w1 x2) < 0))
                 (M.ret (([] : List Int), 4))
                 (M.bif (decide (2147483647 < (atD w1 x2)))
                    (M.ret (([] : List Int), 4))
                    (M.chk (okI (x2 + 1)) <|
                     again1 (x2 + 1))))
              (M.call (cycle_Order g1) fun x3 =>
               M.bif (!decide (x3.2 = 0))
                 (M.ret (([] : List Int), x3.2))
                 (M.chk ((0 : Int) ≤ (g1.length : Int) ∧ (g1.length : Int) < 1000000000000) <|
                  M.chk ((0 : Int) ≤ (g1.length : Int) ∧ (g1.length : Int) < 1000000000000) <|
                  M.loop (fun again2 ((x4, g2, w2, own1, own2) : Int × List (List Int) × List Int × List Bool × List Int) =>
                      M.bif (decide (x4 < (g1.length : Int)))
                        (M.call (bound_bounds_bound (⟨g2, w2, own1, own2⟩ : Bound_bounds) x4) fun x5 =>
                         M.bif (!decide (x5.2.1 = 0))
                           (M.ret (([] : List Int), x5.2.1))
                           (M.chk (okI (x4 + 1)) <|
                            again2 ((x4 + 1), x5.2.2.g, x5.2.2.w, x5.2.2.known, x5.2.2.of)))
                        (M.ret (own2, 0))) (0, g1, w1, (repD (g1.length : Int) : List Bool), (repD (g1.length : Int) : List Int))))) 0))
def law29_awake  : M (Bool) :=
  M.call (bound_All ([([1] : List Int), ([] : List Int)] : List (List Int)) ([16, 32] : List Int)) fun x1 =>
  M.bif (decide (x1.2 = 0))
    (M.bif (decide ((x1.1.length : Int) = 2))
       (M.chk ((0 : Int) ≤ 0 ∧ 0 < (x1.1.length : Int)) <|
        M.ret (decide ((atD x1.1 0) = 48)))
       (M.ret false))
    (M.ret false)
def draw_Weights (c1 : DCodes) (n1 : Int) : M (List Int × DCodes) :=
  M.loop (fun again1 ((n2, c2, w1) : Int × DCodes × List Int) =>
      M.bif (decide (0 < n2))
        (M.call (draw_Next c2 9) fun x1 =>
         M.chk (okI ((16 : Int) * x1.1)) <|
         M.call (draw_Next x1.2 20) fun x2 =>
         M.bif (decide (x2.1 = 19))
           (M.call (draw_Next x2.2 40) fun x3 =>
            M.chk (okI ((1073741823 : Int) - x3.1)) <|
            M.chk (w1.length + ([((1073741823 : Int) - x3.1)] : List Int).length < 1000000000000) <|
            M.chk (okI (n2 - 1)) <|
            again1 ((n2 - 1), x3.2, (w1 ++ ([((1073741823 : Int) - x3.1)] : List Int))))
           (M.chk (w1.length + ([((16 : Int) * x1.1)] : List Int).length < 1000000000000) <|
            M.chk (okI (n2 - 1)) <|
            again1 ((n2 - 1), x2.2, (w1 ++ ([((16 : Int) * x1.1)] : List Int)))))
        (M.ret (w1, c2))) (n1, c1, ([] : List Int))
def law29_scene (codes1 : List Int) : M (List (List Int) × List Int × DCodes) :=
  M.call (draw_New codes1 120) fun x1 =>
  M.call (draw_Next x1 4) fun x2 =>
  M.call (draw_Graph x2.2 8 (decide (0 < x2.1))) fun x3 =>
  M.call (draw_Weights x3.2 (x3.1.length : Int)) fun x4 =>
  M.ret (x3.1, x4.1, x4.2)
def r04_Check (s1 : List Int) : M (Bool) :=
  M.loop (fun again1 (i1 : Int) =>
      M.bif (decide (i1 < (s1.length : Int)))
        (M.chk ((0 : Int) ≤ i1 ∧ i1 < (s1.length : Int)) <|
         M.call (r04_good (atD s1 i1)) fun x1 =>
         M.bif (!x1)
           (M.ret false)
           (M.bif (decide (0 < i1))
              (M.chk ((0 : Int) ≤ i1 ∧ i1 < (s1.length : Int)) <|
               M.chk (okI (i1 - 1)) <|
               M.chk ((0 : Int) ≤ (i1 - 1) ∧ (i1 - 1) < (s1.length : Int)) <|
               M.bif (decide ((atD s1 i1) ≤ (atD s1 (i1 - 1))))
                 (M.ret false)
                 (M.chk (okI (i1 + 1)) <|
                  again1 (i1 + 1)))
              (M.chk (okI (i1 + 1)) <|
               again1 (i1 + 1))))
        (M.ret true)) 0
def r27_Check (g1 : List (List Int)) : M (Bool) :=
  M.bif (decide ((g1.length : Int) < 1))
    (M.ret false)
    (M.bif (decide (80 < (g1.length : Int)))
       (M.ret false)
       (M.loop (fun again1 (i1 : Int) =>
            M.bif (decide (i1 < (g1.length : Int)))
              (M.chk ((0 : Int) ≤ i1 ∧ i1 < (g1.length : Int)) <|
               M.call (r04_Check (atD g1 i1)) fun x1 =>
               M.bif (!x1)
                 (M.ret false)
                 (M.chk ((0 : Int) ≤ i1 ∧ i1 < (g1.length : Int)) <|
                  M.bif (decide (0 < ((atD g1 i1).length : Int)))
                    (M.chk ((0 : Int) ≤ i1 ∧ i1 < (g1.length : Int)) <|
                     M.chk ((0 : Int) ≤ i1 ∧ i1 < (g1.length : Int)) <|
                     M.chk (okI (((atD g1 i1).length : Int) - 1)) <|
                     M.chk ((0 : Int) ≤ (((atD g1 i1).length : Int) - 1) ∧ (((atD g1 i1).length : Int) - 1) < ((atD g1 i1).length : Int)) <|
                     M.bif (decide ((g1.length : Int) ≤ (atD (atD g1 i1) (((atD g1 i1).length : Int) - 1))))
                       (M.ret false)
                       (M.chk (okI (i1 + 1)) <|
                        again1 (i1 + 1)))
                    (M.chk (okI (i1 + 1)) <|
                     again1 (i1 + 1))))
              (M.ret true)) 0))
def r03_Bound (n1 : Int) : M (Bool) :=
  M.bif (decide (0 ≤ n1))
    (M.ret (decide (n1 ≤ 2147483647)))
    (M.ret false)
def r29_Right (g1 : List (List Int)) (w1 : List Int) : M (Bool) :=
  M.call (r27_Check g1) fun x1 =>
  M.bif (!x1)
    (M.ret false)
    (M.bif (!decide ((w1.length : Int) = (g1.length : Int)))
       (M.ret false)
       (M.loop (fun again1 (i1 : Int) =>
            M.bif (decide (i1 < (w1.length : Int)))
              (M.chk ((0 : Int) ≤ i1 ∧ i1 < (w1.length : Int)) <|
               M.call (r03_Bound (atD w1 i1)) fun x2 =>
               M.bif (!x2)
                 (M.ret false)
                 (M.chk (okI (i1 + 1)) <|
                  again1 (i1 + 1)))
              (M.ret true)) 0))
def r03_Add (x1 : Int) (y1 : Int) : M (Int × Int) :=
  M.call (r03_Bound x1) fun x2 =>
  M.bif (!x2)
    (M.ret (0, 4))
    (M.call (r03_Bound y1) fun x3 =>
     M.bif (!x3)
       (M.ret (0, 4))
       (M.chk (okI (x1 + y1)) <|
        M.bif (decide (2147483647 < (x1 + y1)))
          (M.ret (0, 9))
          (M.chk (okI (x1 + y1)) <|
           M.ret ((x1 + y1), 0))))
def r29_All (g1 : List (List Int)) (w1 : List Int) : M (List Int × Int) :=
  M.call (r29_Right g1 w1) fun x1 =>
  M.bif (!x1)
    (M.ret (([] : List Int), 4))
    (M.call (r28_Order g1) fun x2 =>
     M.bif (!decide (x2.2 = 0))
       (M.ret (([] : List Int), x2.2))
       (M.chk ((0 : Int) ≤ (g1.length : Int) ∧ (g1.length : Int) < 1000000000000) <|
        M.loop (fun again1 ((i1, out1) : Int × List Int) =>
            M.bif (decide (i1 < (x2.1.length : Int)))
              (M.chk ((0 : Int) ≤ i1 ∧ i1 < (x2.1.length : Int)) <|
               M.loop (fun again2 ((most1, k1) : Int × Int) =>
                   M.chk ((0 : Int) ≤ (atD x2.1 i1) ∧ (atD x2.1 i1) < (g1.length : Int)) <|
                   M.bif (decide (k1 < ((atD g1 (atD x2.1 i1)).length : Int)))
                     (M.chk ((0 : Int) ≤ (atD x2.1 i1) ∧ (atD x2.1 i1) < (g1.length : Int)) <|
                      M.chk ((0 : Int) ≤ k1 ∧ k1 < ((atD g1 (atD x2.1 i1)).length : Int)) <|
                      M.chk ((0 : Int) ≤ (atD (atD g1 (atD x2.1 i1)) k1) ∧ (atD (atD g1 (atD x2.1 i1)) k1) < (out1.length : Int)) <|
                      M.chk (okI (k1 + 1)) <|
                      again2 ((max most1 (atD out1 (atD (atD g1 (atD x2.1 i1)) k1))), (k1 + 1)))
                     (M.chk ((0 : Int) ≤ (atD x2.1 i1) ∧ (atD x2.1 i1) < (w1.length : Int)) <|
                      M.call (r03_Add (atD w1 (atD x2.1 i1)) most1) fun x3 =>
                      M.chk ((0 : Int) ≤ (atD x2.1 i1) ∧ (atD x2.1 i1) < (out1.length : Int)) <|
                      M.bif (!decide (x3.2 = 0))
                        (M.ret (([] : List Int), x3.2))
                        (M.chk (okI (i1 + 1)) <|
                         again1 ((i1 + 1), (setD out1 (atD x2.1 i1) x3.1))))) (0, 0))
              (M.ret (out1, 0))) (0, (repD (g1.length : Int) : List Int))))
def bound_Path (g1 : List (List Int)) (w1 : List Int) : M (List Int × Int) :=
  M.call (bound_All g1 w1) fun x1 =>
  M.bif (!decide (x1.2 = 0))
    (M.ret (([] : List Int), x1.2))
    (M.chk ((0 : Int) ≤ 0 ∧ 0 < (g1.length : Int)) <|
     M.loop (fun again1 ((next1, way1) : List Int × List Int) =>
         M.bif (decide (0 < (next1.length : Int)))
           (M.chk ((0 : Int) ≤ 0 ∧ 0 < (next1.length : Int)) <|
            M.loop (fun again2 ((best1, x2) : Int × Int) =>
                M.bif (decide (x2 < (next1.length : Int)))
                  (M.chk ((0 : Int) ≤ x2 ∧ x2 < (next1.length : Int)) <|
                   M.chk ((0 : Int) ≤ (atD next1 x2) ∧ (atD next1 x2) < (x1.1.length : Int)) <|
                   M.chk ((0 : Int) ≤ best1 ∧ best1 < (x1.1.length : Int)) <|
                   M.bif (decide ((atD x1.1 best1) < (atD x1.1 (atD next1 x2))))
                     (M.chk (okI (x2 + 1)) <|
                      again2 ((atD next1 x2), (x2 + 1)))
                     (M.chk (okI (x2 + 1)) <|
                      again2 (best1, (x2 + 1))))
                  (M.chk (way1.length + ([best1] : List Int).length < 1000000000000) <|
                   M.chk ((0 : Int) ≤ best1 ∧ best1 < (g1.length : Int)) <|
                   again1 ((atD g1 best1), (way1 ++ ([best1] : List Int))))) ((atD next1 0), 0))
           (M.ret (way1, 0))) ((atD g1 0), ([0] : List Int)))
def r29_Path (g1 : List (List Int)) (w1 : List Int) : M (List Int × Int) :=
  M.call (r29_All g1 w1) fun x1 =>
  M.bif (!decide (x1.2 = 0))
    (M.ret (([] : List Int), x1.2))
    (M.loop (fun again1 (out1 : List Int) =>
         M.chk (okI ((out1.length : Int) - 1)) <|
         M.chk ((0 : Int) ≤ ((out1.length : Int) - 1) ∧ ((out1.length : Int) - 1) < (out1.length : Int)) <|
         M.chk ((0 : Int) ≤ (atD out1 ((out1.length : Int) - 1)) ∧ (atD out1 ((out1.length : Int) - 1)) < (g1.length : Int)) <|
         M.bif (decide (((atD g1 (atD out1 ((out1.length : Int) - 1))).length : Int) = 0))
           (M.ret (out1, 0))
           (M.chk ((0 : Int) ≤ 0 ∧ 0 < ((atD g1 (atD out1 ((out1.length : Int) - 1))).length : Int)) <|
            M.loop (fun again2 ((best1, k1) : Int × Int) =>
                M.bif (decide (k1 < ((atD g1 (atD out1 ((out1.length : Int) - 1))).length : Int)))
                  (M.chk ((0 : Int) ≤ k1 ∧ k1 < ((atD g1 (atD out1 ((out1.length : Int) - 1))).length : Int)) <|
                   M.chk ((0 : Int) ≤ (atD (atD g1 (atD out1 ((out1.length : Int) - 1))) k1) ∧ (atD (atD g1 (atD out1 ((out1.length : Int) - 1))) k1) < (x1.1.length : Int)) <|
                   M.chk ((0 : Int) ≤ best1 ∧ best1 < (x1.1.length : Int)) <|
                   M.bif (decide ((atD x1.1 best1) < (atD x1.1 (atD (atD g1 (atD out1 ((out1.length : Int) - 1))) k1))))
                     (M.chk ((0 : Int) ≤ k1 ∧ k1 < ((atD g1 (atD out1 ((out1.length : Int) - 1))).length : Int)) <|
                      M.chk (okI (k1 + 1)) <|
                      again2 ((atD (atD g1 (atD out1 ((out1.length : Int) - 1))) k1), (k1 + 1)))
                     (M.chk (okI (k1 + 1)) <|
                      again2 (best1, (k1 + 1))))
                  (M.chk (out1.length + ([best1] : List Int).length < 1000000000000) <|
                   again1 (out1 ++ ([best1] : List Int)))) ((atD (atD g1 (atD out1 ((out1.length : Int) - 1))) 0), 0))) ([0] : List Int))
def law29_BoundAll (codes1 : List Int) (raw1 : List (List Int)) (w1 : List Int) : M (Bool) :=
  M.call (law29_awake) fun x1 =>
  M.bif (!x1)
    (M.join (fun (x2 : Bool) =>
         M.ret x2) fun k1 =>
     M.bif (decide (100 < (raw1.length : Int)))
       (k1 true)
       (k1 (decide (100 < (w1.length : Int)))))
    (M.bif (decide (100 < (raw1.length : Int)))
       (M.ret true)
       (M.bif (decide (100 < (w1.length : Int)))
          (M.ret (decide (100 < (w1.length : Int))))
          (M.call (law29_scene codes1) fun x3 =>
           M.loop (fun again1 (x4 : Int) =>
               M.bif (decide (x4 < (([x3.1, raw1] : List (List (List Int))).length : Int)))
                 (M.chk ((0 : Int) ≤ x4 ∧ x4 < (([x3.1, raw1] : List (List (List Int))).length : Int)) <|
                  M.loop (fun again2 (x5 : Int) =>
                      M.bif (decide (x5 < (([x3.2.1, w1] : List (List Int)).length : Int)))
                        (M.chk ((0 : Int) ≤ x5 ∧ x5 < (([x3.2.1, w1] : List (List Int)).length : Int)) <|
                         M.call (bound_All (atD ([x3.1, raw1] : List (List (List Int))) x4) (atD ([x3.2.1, w1] : List (List Int)) x5)) fun x6 =>
                         M.call (r29_All (atD ([x3.1, raw1] : List (List (List Int))) x4) (atD ([x3.2.1, w1] : List (List Int)) x5)) fun x7 =>
                         M.call (bound_Path (atD ([x3.1, raw1] : List (List (List Int))) x4) (atD ([x3.2.1, w1] : List (List Int)) x5)) fun x8 =>
                         M.call (r29_Path (atD ([x3.1, raw1] : List (List (List Int))) x4) (atD ([x3.2.1, w1] : List (List Int)) x5)) fun x9 =>
                         M.bif (!decide (x6.2 = x7.2))
                           (M.ret false)
                           (M.call (r04_Same x6.1 x7.1) fun x10 =>
                            M.bif (!x10)
                              (M.ret false)
                              (M.bif (!decide (x8.2 = x9.2))
                                 (M.ret false)
                                 (M.call (r04_Same x8.1 x9.1) fun x11 =>
                                  M.bif (!x11)
                                    (M.ret false)
                                    (M.chk (okI (x5 + 1)) <|
                                     again2 (x5 + 1))))))
                        (M.chk (okI (x4 + 1)) <|
                         again1 (x4 + 1))) 0)
                 (M.ret true)) 0)))
def law29_BoundIsMonotone (codes1 : List Int) : M (Bool) :=
  M.call (law29_awake) fun x1 =>
  M.bif (!x1)
    (M.ret false)
    (M.call (draw_New codes1 150) fun x2 =>
     M.call (draw_Graph x2 8 true) fun x3 =>
     M.chk (x3.1.length < 1000000000000) <|
     M.loop (fun again1 ((i1, c1, h1, w1, v1) : Int × DCodes × List (List Int) × List Int × List Int) =>
         M.bif (decide (i1 < (x3.1.length : Int)))
           (M.call (draw_Next c1 20) fun x4 =>
            M.chk (okI ((16 : Int) * x4.1)) <|
            M.chk (w1.length + ([((16 : Int) * x4.1)] : List Int).length < 1000000000000) <|
            M.call (draw_Next x4.2 3) fun x5 =>
            M.chk (okI ((16 : Int) * x5.1)) <|
            M.chk (okI (((16 : Int) * x4.1) + ((16 : Int) * x5.1))) <|
            M.chk (v1.length + ([(((16 : Int) * x4.1) + ((16 : Int) * x5.1))] : List Int).length < 1000000000000) <|
            M.chk (okI (i1 + 1)) <|
            M.bif (decide ((i1 + 1) < (x3.1.length : Int)))
              (M.call (draw_Next x5.2 3) fun x6 =>
               M.bif (decide (x6.1 = 2))
                 (M.chk ((0 : Int) ≤ i1 ∧ i1 < (x3.1.length : Int)) <|
                  M.chk (okI (i1 + 1)) <|
                  M.chk (okI ((x3.1.length : Int) - i1)) <|
                  M.chk (okI (((x3.1.length : Int) - i1) - 1)) <|
                  M.call (draw_Next x6.2 (((x3.1.length : Int) - i1) - 1)) fun x7 =>
                  M.chk (okI ((i1 + 1) + x7.1)) <|
                  M.call (r04_Add (atD x3.1 i1) ((i1 + 1) + x7.1)) fun x8 =>
                  M.chk ((0 : Int) ≤ i1 ∧ i1 < (h1.length : Int)) <|
                  M.chk (okI (i1 + 1)) <|
                  again1 ((i1 + 1), x7.2, (setD h1 i1 x8), (w1 ++ ([((16 : Int) * x4.1)] : List Int)), (v1 ++ ([(((16 : Int) * x4.1) + ((16 : Int) * x5.1))] : List Int))))
                 (M.chk (okI (i1 + 1)) <|
                  again1 ((i1 + 1), x6.2, h1, (w1 ++ ([((16 : Int) * x4.1)] : List Int)), (v1 ++ ([(((16 : Int) * x4.1) + ((16 : Int) * x5.1))] : List Int)))))
              (M.chk (okI (i1 + 1)) <|
               again1 ((i1 + 1), x5.2, h1, (w1 ++ ([((16 : Int) * x4.1)] : List Int)), (v1 ++ ([(((16 : Int) * x4.1) + ((16 : Int) * x5.1))] : List Int)))))
           (M.call (bound_All x3.1 w1) fun x9 =>
            M.call (bound_All h1 v1) fun x10 =>
            M.bif (!decide (x9.2 = 0))
              (M.ret false)
              (M.bif (!decide (x10.2 = 0))
                 (M.ret false)
                 (M.bif (!decide ((x9.1.length : Int) = (x3.1.length : Int)))
                    (M.ret false)
                    (M.bif (!decide ((x10.1.length : Int) = (x3.1.length : Int)))
                       (M.ret false)
                       (M.loop (fun again2 ((w2, i2) : List Int × Int) =>
                            M.bif (decide (i2 < (x9.1.length : Int)))
                              (M.chk ((0 : Int) ≤ i2 ∧ i2 < (x9.1.length : Int)) <|
                               M.chk ((0 : Int) ≤ i2 ∧ i2 < (x10.1.length : Int)) <|
                               M.bif (decide ((atD x10.1 i2) < (atD x9.1 i2)))
                                 (M.ret false)
                                 (M.chk ((0 : Int) ≤ i2 ∧ i2 < (x9.1.length : Int)) <|
                                  M.chk ((0 : Int) ≤ i2 ∧ i2 < (w2.length : Int)) <|
                                  M.bif (decide ((atD x9.1 i2) < (atD w2 i2)))
                                    (M.ret false)
                                    (M.chk (okI (i2 + 1)) <|
                                     again2 (w2, (i2 + 1)))))
                              (M.ret true)) (w1, 0))))))) (0, x3.2, x3.1, ([] : List Int), ([] : List Int)))
def bound_Weights (t1 : ATarget) : M (List Int) :=
  M.loop (fun again1 ((x1, w1) : Int × List Int) =>
      M.bif (decide (x1 < (t1.Frames.length : Int)))
        (M.chk ((0 : Int) ≤ x1 ∧ x1 < (t1.Frames.length : Int)) <|
         M.chk (w1.length + ([(atD t1.Frames x1).Size] : List Int).length < 1000000000000) <|
         M.chk (okI (x1 + 1)) <|
         again1 ((x1 + 1), (w1 ++ ([(atD t1.Frames x1).Size] : List Int))))
        (M.ret w1)) (0, ([] : List Int))
def r29_Weights (t1 : ATarget) : M (List Int) :=
  M.loop (fun again1 ((i1, out1) : Int × List Int) =>
      M.bif (decide (i1 < (t1.Frames.length : Int)))
        (M.chk ((0 : Int) ≤ i1 ∧ i1 < (t1.Frames.length : Int)) <|
         M.chk (out1.length + ([(atD t1.Frames i1).Size] : List Int).length < 1000000000000) <|
         M.chk (okI (i1 + 1)) <|
         again1 ((i1 + 1), (out1 ++ ([(atD t1.Frames i1).Size] : List Int))))
        (M.ret out1)) (0, ([] : List Int))
def law29_BoundOverflows (count1 : Int) (extra1 : Int) (sizes1 : List Int) : M (Bool) :=
  M.call (law29_awake) fun x1 =>
  M.bif (!x1)
    (M.ret (decide (100 < (sizes1.length : Int))))
    (M.bif (decide (100 < (sizes1.length : Int)))
       (M.ret (decide (100 < (sizes1.length : Int))))
       (M.chk (okI count1) <|
        M.chk ((80 : Int) ≠ 0) <|
        M.chk (okI ((1 : Int) + (Int.tmod count1 80))) <|
        M.chk ((0 : Int) ≤ ((1 : Int) + (Int.tmod count1 80)) ∧ ((1 : Int) + (Int.tmod count1 80)) < 1000000000000) <|
        M.chk ((0 : Int) ≤ ((1 : Int) + (Int.tmod count1 80)) ∧ ((1 : Int) + (Int.tmod count1 80)) < 1000000000000) <|
        M.loop (fun again1 ((i1, g1, w1) : Int × List (List Int) × List Int) =>
            M.bif (decide (i1 < ((1 : Int) + (Int.tmod count1 80))))
              (M.chk (okI (i1 + 1)) <|
               M.bif (decide ((i1 + 1) < ((1 : Int) + (Int.tmod count1 80))))
                 (M.chk (okI (i1 + 1)) <|
                  M.chk ((0 : Int) ≤ i1 ∧ i1 < (g1.length : Int)) <|
                  M.chk ((0 : Int) ≤ (2147483647 : Int) ∧ (0 : Int) < ((1 : Int) + (Int.tmod count1 80)) ∧ (2147483647 : Int) ≤ 9223372036854775807) <|
                  M.chk ((0 : Int) ≤ i1 ∧ i1 < (w1.length : Int)) <|
                  M.chk (okI (i1 + 1)) <|
                  again1 ((i1 + 1), (setD g1 i1 ([(i1 + 1)] : List Int)), (setD w1 i1 ((2147483647 : Int) / ((1 : Int) + (Int.tmod count1 80))))))
                 (M.chk ((0 : Int) ≤ (2147483647 : Int) ∧ (0 : Int) < ((1 : Int) + (Int.tmod count1 80)) ∧ (2147483647 : Int) ≤ 9223372036854775807) <|
                  M.chk ((0 : Int) ≤ i1 ∧ i1 < (w1.length : Int)) <|
                  M.chk (okI (i1 + 1)) <|
                  again1 ((i1 + 1), g1, (setD w1 i1 ((2147483647 : Int) / ((1 : Int) + (Int.tmod count1 80)))))))
              (M.chk (okI (((1 : Int) + (Int.tmod count1 80)) - 1)) <|
               M.chk ((0 : Int) ≤ (((1 : Int) + (Int.tmod count1 80)) - 1) ∧ (((1 : Int) + (Int.tmod count1 80)) - 1) < (w1.length : Int)) <|
               M.chk (((1 : Int) + (Int.tmod count1 80)) ≠ 0) <|
               M.chk (okI extra1) <|
               M.chk ((2 : Int) ≠ 0) <|
               M.chk (okI ((Int.tmod (2147483647 : Int) ((1 : Int) + (Int.tmod count1 80))) + (Int.tmod extra1 2))) <|
               M.chk (okI ((atD w1 (((1 : Int) + (Int.tmod count1 80)) - 1)) + ((Int.tmod (2147483647 : Int) ((1 : Int) + (Int.tmod count1 80))) + (Int.tmod extra1 2)))) <|
               M.chk ((0 : Int) ≤ (((1 : Int) + (Int.tmod count1 80)) - 1) ∧ (((1 : Int) + (Int.tmod count1 80)) - 1) < (w1.length : Int)) <|
               M.call (bound_All g1 (setD w1 (((1 : Int) + (Int.tmod count1 80)) - 1) ((atD w1 (((1 : Int) + (Int.tmod count1 80)) - 1)) + ((Int.tmod (2147483647 : Int) ((1 : Int) + (Int.tmod count1 80))) + (Int.tmod extra1 2))))) fun x2 =>
               M.join (fun (_ : Unit) =>
                   M.loop (fun again2 ((i2, Frames1) : Int × List AFrame) =>
                       M.bif (decide (i2 < (sizes1.length : Int)))
                         (M.chk (Frames1.length < 1000000000000) <|
                          M.chk ((0 : Int) ≤ i2 ∧ i2 < (sizes1.length : Int)) <|
                          M.chk (okI (atD sizes1 i2)) <|
                          M.chk (Frames1.length + ([(⟨0, (atD sizes1 i2), ([] : List AInstr)⟩ : AFrame)] : List AFrame).length < 1000000000000) <|
                          M.chk (okI (i2 + 1)) <|
                          again2 ((i2 + 1), (Frames1 ++ ([(⟨0, (atD sizes1 i2), ([] : List AInstr)⟩ : AFrame)] : List AFrame))))
                         (M.call (bound_Weights (⟨0, Frames1⟩ : ATarget)) fun x3 =>
                          M.call (r29_Weights (⟨0, Frames1⟩ : ATarget)) fun x4 =>
                          M.call (r04_Same x3 x4) fun x5 =>
                          M.ret x5)) (0, ([] : List AFrame))) fun k1 =>
               M.chk (okI extra1) <|
               M.chk ((2 : Int) ≠ 0) <|
               M.bif (decide (0 < (Int.tmod extra1 2)))
                 (M.bif (!decide (x2.2 = 9))
                    (M.bif (decide (((1 : Int) + (Int.tmod count1 80)) = 1))
                       (M.bif (!(decide (x2.2 = 4)))
                          (M.ret false)
                          (k1 ()))
                       (M.ret false))
                    (k1 ()))
                 (M.bif (!decide (x2.2 = 0))
                    (M.ret false)
                    (M.bif (!decide ((x2.1.length : Int) = ((1 : Int) + (Int.tmod count1 80))))
                       (M.ret false)
                       (M.chk ((0 : Int) ≤ 0 ∧ 0 < (x2.1.length : Int)) <|
                        M.chk (okI extra1) <|
                        M.chk ((2 : Int) ≠ 0) <|
                        M.chk (okI ((2147483647 : Int) + (Int.tmod extra1 2))) <|
                        M.bif (!decide ((atD x2.1 0) = ((2147483647 : Int) + (Int.tmod extra1 2))))
                          (M.ret false)
                          (k1 ())))))) (0, (repD ((1 : Int) + (Int.tmod count1 80)) : List (List Int)), (repD ((1 : Int) + (Int.tmod count1 80)) : List Int))))
end Go.Proofs.YtmefipdgohflmaaDoor.Q
