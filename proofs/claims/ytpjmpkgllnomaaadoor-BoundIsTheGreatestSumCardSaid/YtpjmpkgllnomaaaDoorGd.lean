/- The data of the program, and its functions as lifted texts (written by a program). -/
import Derived.Test.YtpjmpkgllnomaaaDoorPureB
set_option linter.unusedVariables false
namespace Go.Proofs.YtpjmpkgllnomaaaDoor.Q
/-- What the package bitset does (known by hand). -/
def in512 (n : Int) : Bool := decide (0 ≤ n ∧ n < 512)
def setOf (l : List Int) : List Int := ((List.range 512).filter fun k : Nat => decide ((k : Int) ∈ l)).map fun k : Nat => (k : Int)
/-- In order, all of them in range. -/
def ascS (l : List Int) : Bool := (List.range l.length).all fun j => in512 (l.getD j 0) && (decide (j = 0) || decide (l.getD (j - 1) 0 < l.getD j 0))
def bitset_Has (s : List Int) (n : Int) : M Bool := M.ret (in512 n && decide (n ∈ s))
def bitset_Of (l : List Int) : M (List Int) := M.ret (setOf l)
def bitset_Add (s : List Int) (n : Int) : M (List Int) := M.ret (setOf (s ++ [n]))
def bitset_Remove (s : List Int) (n : Int) : M (List Int) := M.ret (setOf (s.filter fun x => x != n))
def bitset_Union (a b : List Int) : M (List Int) := M.ret (setOf (a ++ b))
def bitset_Meet (a b : List Int) : M (List Int) := M.ret (setOf (a.filter fun x => decide (x ∈ b)))
def bitset_Within (a b : List Int) : M Bool := M.ret (a.all fun x => in512 x && decide (x ∈ b))
def bitset_Check (s : List Int) : M Bool := M.ret (ascS s)
structure Bound_bounds where
  g : List (List Int)
  w : List Int
  known : List Bool
  of : List Int
  deriving DecidableEq
instance : Inhabited Bound_bounds := ⟨⟨[], [], [], []⟩⟩
structure DCodes where
  list : List Int
  at_ : Int
  deriving DecidableEq
instance : Inhabited DCodes := ⟨⟨[], 0⟩⟩
def callgraph_Check (g1 : List (List Int)) : M (Bool) :=
  M.loop (fun again1 (x1 : Int) =>
      M.bif (decide (x1 < (g1.length : Int)))
        (M.chk ((0 : Int) ≤ x1 ∧ x1 < (g1.length : Int)) <|
         M.call (bitset_Check (atD g1 x1)) fun x2 =>
         M.bif (!x2)
           (M.ret false)
           (M.bif (decide (0 < ((atD g1 x1).length : Int)))
              (M.chk (okI (((atD g1 x1).length : Int) - 1)) <|
               M.chk ((0 : Int) ≤ (((atD g1 x1).length : Int) - 1) ∧ (((atD g1 x1).length : Int) - 1) < ((atD g1 x1).length : Int)) <|
               M.bif (decide ((g1.length : Int) ≤ (atD (atD g1 x1) (((atD g1 x1).length : Int) - 1))))
                 (M.ret false)
                 (M.chk (okI (x1 + 1)) <|
                  again1 (x1 + 1)))
              (M.chk (okI (x1 + 1)) <|
               again1 (x1 + 1))))
        (M.bif (decide (1 ≤ (g1.length : Int)))
           (M.ret (decide ((g1.length : Int) ≤ 80)))
           (M.ret false))) 0
def cycle_Order (g1 : List (List Int)) : M (List Int × Int) :=
  M.loop (fun again1 ((done1, order1) : List Int × List Int) =>
      M.bif (decide ((order1.length : Int) < (g1.length : Int)))
        (M.join (fun (next1 : Int) =>
             M.bif (decide (next1 < 0))
               (M.ret (([] : List Int), 8))
               (M.chk (order1.length + ([next1] : List Int).length < 1000000000000) <|
                M.call (bitset_Add done1 next1) fun x1 =>
                again1 (x1, (order1 ++ ([next1] : List Int))))) fun k1 =>
         M.loop (fun again2 (x2 : Int) =>
             M.bif (decide (x2 < (g1.length : Int)))
               (M.chk ((0 : Int) ≤ x2 ∧ x2 < (g1.length : Int)) <|
                M.call (bitset_Has done1 x2) fun x3 =>
                M.bif (!x3)
                  (M.call (bitset_Within (atD g1 x2) done1) fun x4 =>
                   M.bif x4
                     (k1 x2)
                     (M.chk (okI (x2 + 1)) <|
                      again2 (x2 + 1)))
                  (M.chk (okI (x2 + 1)) <|
                   again2 (x2 + 1)))
               (k1 (-1))) 0)
        (M.ret (order1, 0))) (([] : List Int), ([] : List Int))
def extent_bound (n1 : Int) : M (Bool) :=
  M.bif (decide (0 ≤ n1))
    (M.ret (decide (n1 ≤ 2147483647)))
    (M.ret false)
def extent_limited (n1 : Int) : M (Int × Int) :=
  M.bif (decide (2147483647 < n1))
    (M.ret (0, 9))
    (M.ret (n1, 0))
def extent_Add (x1 : Int) (y1 : Int) : M (Int × Int) :=
  M.call (extent_bound x1) fun x2 =>
  M.bif (!x2)
    (M.ret (0, 4))
    (M.call (extent_bound y1) fun x3 =>
     M.bif (!x3)
       (M.ret (0, 4))
       (M.chk (okI (x1 + y1)) <|
        M.call (extent_limited (x1 + y1)) fun x4 =>
        M.ret (x4.1, x4.2)))
def bound_bounds_bound_body (self : Bound_bounds → Int → M (Int × Int × Bound_bounds)) (b1 : Bound_bounds) (i1 : Int) : M (Int × Int × Bound_bounds) :=
  M.chk ((0 : Int) ≤ i1 ∧ i1 < (b1.known.length : Int)) <|
  M.bif (atD b1.known i1)
    (M.chk ((0 : Int) ≤ i1 ∧ i1 < (b1.of.length : Int)) <|
     M.ret ((atD b1.of i1), 0, b1))
    (M.chk ((0 : Int) ≤ i1 ∧ i1 < (b1.g.length : Int)) <|
     M.loop (fun again1 ((most1, x1, g1, w1, own1, own2) : Int × Int × List (List Int) × List Int × List Bool × List Int) =>
         M.bif (decide (x1 < ((atD b1.g i1).length : Int)))
           (M.chk ((0 : Int) ≤ x1 ∧ x1 < ((atD b1.g i1).length : Int)) <|
            M.call (self (⟨g1, w1, own1, own2⟩ : Bound_bounds) (atD (atD b1.g i1) x1)) fun x2 =>
            M.bif (!decide (x2.2.1 = 0))
              (M.ret (0, x2.2.1, x2.2.2))
              (M.chk (okI (x1 + 1)) <|
               again1 ((max most1 x2.1), (x1 + 1), x2.2.2.g, x2.2.2.w, x2.2.2.known, x2.2.2.of)))
           (M.chk ((0 : Int) ≤ i1 ∧ i1 < (w1.length : Int)) <|
            M.call (extent_Add (atD w1 i1) most1) fun x3 =>
            M.bif (!decide (x3.2 = 0))
              (M.ret (0, x3.2, (⟨g1, w1, own1, own2⟩ : Bound_bounds)))
              (M.chk ((0 : Int) ≤ i1 ∧ i1 < (own2.length : Int)) <|
               M.chk ((0 : Int) ≤ i1 ∧ i1 < (own1.length : Int)) <|
               M.ret (x3.1, 0, (⟨g1, w1, (setD own1 i1 true), (setD own2 i1 x3.1)⟩ : Bound_bounds))))) (0, 0, b1.g, b1.w, b1.known, b1.of))
def bound_bounds_bound_at : Nat → Bound_bounds → Int → M (Int × Int × Bound_bounds)
  | 0 => fun _ _ => M.none
  | depth + 1 => bound_bounds_bound_body (bound_bounds_bound_at depth)
def bound_bounds_bound (b1 : Bound_bounds) (i1 : Int) : M (Int × Int × Bound_bounds) := M.fix fun depth => bound_bounds_bound_at depth b1 i1
def bound_All (g1 : List (List Int)) (w1 : List Int) : M (List Int × Int) :=
  M.call (callgraph_Check g1) fun x1 =>
  M.bif (!x1)
    (M.ret (([] : List Int), 4))
    (M.bif (!decide ((w1.length : Int) = (g1.length : Int)))
       (M.ret (([] : List Int), 4))
       (M.loop (fun again1 (x2 : Int) =>
            M.bif (decide (x2 < (w1.length : Int)))
              (M.chk ((0 : Int) ≤ x2 ∧ x2 < (w1.length : Int)) <|
               M.bif (decide ((atD w1 x2) < 0))
                 (M.ret (([] : List Int), 4))
                 (M.bif (decide (2147483647 < (atD w1 x2)))
                    (M.ret (([] : List Int), 4))
                    (M.chk (okI (x2 + 1)) <|
                     again1 (x2 + 1))))
              (M.call (cycle_Order g1) fun x3 =>
               M.bif (!decide (x3.2 = 0))
                 (M.ret (([] : List Int), x3.2))
                 (M.chk ((0 : Int) ≤ (g1.length : Int) ∧ (g1.length : Int) < 1000000000000) <|
                  M.chk ((0 : Int) ≤ (g1.length : Int) ∧ (g1.length : Int) < 1000000000000) <|
                  M.loop (fun again2 ((x4, g2, w2, own1, own2) : Int × List (List Int) × List Int × List Bool × List Int) =>
                      M.bif (decide (x4 < (g1.length : Int)))
                        (M.call (bound_bounds_bound (⟨g2, w2, own1, own2⟩ : Bound_bounds) x4) fun x5 =>
                         M.bif (!decide (x5.2.1 = 0))
                           (M.ret (([] : List Int), x5.2.1))
                           (M.chk (okI (x4 + 1)) <|
                            again2 ((x4 + 1), x5.2.2.g, x5.2.2.w, x5.2.2.known, x5.2.2.of)))
                        (M.ret (own2, 0))) (0, g1, w1, (repD (g1.length : Int) : List Bool), (repD (g1.length : Int) : List Int))))) 0))
def law29_awake  : M (Bool) :=
  M.call (bound_All ([([1] : List Int), ([] : List Int)] : List (List Int)) ([16, 32] : List Int)) fun x1 =>
  M.bif (decide (x1.2 = 0))
    (M.bif (decide ((x1.1.length : Int) = 2))
       (M.chk ((0 : Int) ≤ 0 ∧ 0 < (x1.1.length : Int)) <|
        M.ret (decide ((atD x1.1 0) = 48)))
       (M.ret false))
    (M.ret false)
def draw_New (list1 : List Int) (limit1 : Int) : M (DCodes) :=
  M.chk ((0 : Int) ≤ 0 ∧ 0 ≤ (min (list1.length : Int) limit1) ∧ (min (list1.length : Int) limit1) ≤ (list1.length : Int)) <|
  M.ret (⟨(sliceD list1 0 (min (list1.length : Int) limit1)), 0⟩ : DCodes)
def draw_Left (c1 : DCodes) : M (Bool × DCodes) :=
  M.ret ((decide (c1.at_ < (c1.list.length : Int))), c1)
def draw_Next (c1 : DCodes) (n1 : Int) : M (Int × DCodes) :=
  M.call (draw_Left c1) fun x1 =>
  M.bif (!x1.1)
    (M.ret (0, x1.2))
    (M.bif (decide (n1 < 1))
       (M.ret (0, x1.2))
       (M.chk ((0 : Int) ≤ x1.2.at_ ∧ x1.2.at_ < (x1.2.list.length : Int)) <|
        M.chk (okI (atD x1.2.list x1.2.at_)) <|
        M.chk (okI (x1.2.at_ + 1)) <|
        M.chk (okI ((atD x1.2.list x1.2.at_) * n1)) <|
        M.chk ((0 : Int) ≤ ((atD x1.2.list x1.2.at_) * n1) ∧ (0 : Int) < 256 ∧ ((atD x1.2.list x1.2.at_) * n1) ≤ 9223372036854775807) <|
        M.ret ((((atD x1.2.list x1.2.at_) * n1) / 256), (⟨x1.2.list, (x1.2.at_ + 1)⟩ : DCodes))))
def r04_good (n1 : Int) : M (Bool) :=
  M.bif (decide (0 ≤ n1))
    (M.ret (decide (n1 < 512)))
    (M.ret false)
def r04_Add (s1 : List Int) (n1 : Int) : M (List Int) :=
  M.call (r04_good n1) fun x1 =>
  M.loop (fun again1 ((done1, i1, out1) : Bool × Int × List Int) =>
      M.bif (decide (i1 < (s1.length : Int)))
        (M.join (fun ((done2, out2) : Bool × List Int) =>
             M.chk ((0 : Int) ≤ i1 ∧ i1 < (s1.length : Int)) <|
             M.chk (out2.length + ([(atD s1 i1)] : List Int).length < 1000000000000) <|
             M.chk (okI (i1 + 1)) <|
             again1 (done2, (i1 + 1), (out2 ++ ([(atD s1 i1)] : List Int)))) fun k1 =>
         M.bif (!done1)
           (M.chk ((0 : Int) ≤ i1 ∧ i1 < (s1.length : Int)) <|
            M.bif (decide (n1 ≤ (atD s1 i1)))
              (M.chk ((0 : Int) ≤ i1 ∧ i1 < (s1.length : Int)) <|
               M.bif (decide (n1 < (atD s1 i1)))
                 (M.chk (out1.length + ([n1] : List Int).length < 1000000000000) <|
                  k1 (true, (out1 ++ ([n1] : List Int))))
                 (k1 (true, out1)))
              (k1 (done1, out1)))
           (k1 (done1, out1)))
        (M.bif (!done1)
           (M.chk (out1.length + ([n1] : List Int).length < 1000000000000) <|
            M.ret (out1 ++ ([n1] : List Int)))
           (M.ret out1))) ((!x1), 0, ([] : List Int))
def draw_Graph (c1 : DCodes) (most1 : Int) (free1 : Bool) : M (List (List Int) × DCodes) :=
  M.call (draw_Next c1 most1) fun x1 =>
  M.chk (okI ((1 : Int) + x1.1)) <|
  M.chk ((0 : Int) ≤ ((1 : Int) + x1.1) ∧ ((1 : Int) + x1.1) < 1000000000000) <|
  M.loop (fun again1 ((i1, c2, g1) : Int × DCodes × List (List Int)) =>
      M.bif (decide (i1 < ((1 : Int) + x1.1)))
        (M.call (draw_Next c2 4) fun x2 =>
         M.loop (fun again2 ((k1, c3, g2) : Int × DCodes × List (List Int)) =>
             M.bif (decide (0 < k1))
               (M.call (draw_Next c3 ((1 : Int) + x1.1)) fun x3 =>
                M.join (fun ((j1, c4) : Int × DCodes) =>
                    M.bif (!free1)
                      (M.chk ((0 : Int) ≤ i1 ∧ i1 < (g2.length : Int)) <|
                       M.call (r04_Add (atD g2 i1) j1) fun x4 =>
                       M.chk ((0 : Int) ≤ i1 ∧ i1 < (g2.length : Int)) <|
                       M.chk (okI (k1 - 1)) <|
                       again2 ((k1 - 1), c4, (setD g2 i1 x4)))
                      (M.chk (okI (i1 + 1)) <|
                       M.bif (decide ((i1 + 1) < ((1 : Int) + x1.1)))
                         (M.chk ((0 : Int) ≤ i1 ∧ i1 < (g2.length : Int)) <|
                          M.call (r04_Add (atD g2 i1) j1) fun x5 =>
                          M.chk ((0 : Int) ≤ i1 ∧ i1 < (g2.length : Int)) <|
                          M.chk (okI (k1 - 1)) <|
                          again2 ((k1 - 1), c4, (setD g2 i1 x5)))
                         (M.chk (okI (k1 - 1)) <|
                          again2 ((k1 - 1), c4, g2)))) fun k2 =>
                M.bif free1
                  (M.chk (okI (i1 + 1)) <|
                   M.bif (decide ((i1 + 1) < ((1 : Int) + x1.1)))
                     (M.chk (okI (i1 + 1)) <|
                      M.chk (okI (((1 : Int) + x1.1) - i1)) <|
                      M.chk (okI ((((1 : Int) + x1.1) - i1) - 1)) <|
                      M.call (draw_Next x3.2 ((((1 : Int) + x1.1) - i1) - 1)) fun x6 =>
                      M.chk (okI ((i1 + 1) + x6.1)) <|
                      k2 (((i1 + 1) + x6.1), x6.2))
                     (k2 (x3.1, x3.2)))
                  (k2 (x3.1, x3.2)))
               (M.chk (okI (i1 + 1)) <|
                again1 ((i1 + 1), c3, g2))) (x2.1, x2.2, g1))
        (M.ret (g1, c2))) (0, x1.2, (repD ((1 : Int) + x1.1) : List (List Int)))
def draw_Weights (c1 : DCodes) (n1 : Int) : M (List Int × DCodes) :=
  M.loop (fun again1 ((n2, c2, w1) : Int × DCodes × List Int) =>
      M.bif (decide (0 < n2))
        (M.call (draw_Next c2 9) fun x1 =>
         M.chk (okI ((16 : Int) * x1.1)) <|
         M.call (draw_Next x1.2 20) fun x2 =>
         M.bif (decide (x2.1 = 19))
           (M.call (draw_Next x2.2 40) fun x3 =>
            M.chk (okI ((1073741823 : Int) - x3.1)) <|
            M.chk (w1.length + ([((1073741823 : Int) - x3.1)] : List Int).length < 1000000000000) <|
            M.chk (okI (n2 - 1)) <|
            again1 ((n2 - 1), x3.2, (w1 ++ ([((1073741823 : Int) - x3.1)] : List Int))))
           (M.chk (w1.length + ([((16 : Int) * x1.1)] : List Int).length < 1000000000000) <|
            M.chk (okI (n2 - 1)) <|
            again1 ((n2 - 1), x2.2, (w1 ++ ([((16 : Int) * x1.1)] : List Int)))))
        (M.ret (w1, c2))) (n1, c1, ([] : List Int))
def law29_scene (codes1 : List Int) : M (List (List Int) × List Int × DCodes) :=
  M.call (draw_New codes1 120) fun x1 =>
  M.call (draw_Next x1 4) fun x2 =>
  M.call (draw_Graph x2.2 8 (decide (0 < x2.1))) fun x3 =>
  M.call (draw_Weights x3.2 (x3.1.length : Int)) fun x4 =>
  M.ret (x3.1, x4.1, x4.2)
def bound_Paths_1_body (self : (List Int) → (List (List Int)) → (List (List Int)) → Int → M (Bool × List (List Int))) (way1 : List Int) (c1 : List (List Int)) (c2 : List (List Int)) (c3 : Int) : M (Bool × List (List Int)) :=
  M.chk (okI ((way1.length : Int) - 1)) <|
  M.chk ((0 : Int) ≤ ((way1.length : Int) - 1) ∧ ((way1.length : Int) - 1) < (way1.length : Int)) <|
  M.chk ((0 : Int) ≤ (atD way1 ((way1.length : Int) - 1)) ∧ (atD way1 ((way1.length : Int) - 1)) < (c1.length : Int)) <|
  M.bif (decide (((atD c1 (atD way1 ((way1.length : Int) - 1))).length : Int) = 0))
    (M.chk (c2.length + ([way1] : List (List Int)).length < 1000000000000) <|
     M.ret ((decide (((c2 ++ ([way1] : List (List Int))).length : Int) ≤ c3)), (c2 ++ ([way1] : List (List Int)))))
    (M.loop (fun again1 ((x1, own1) : Int × List (List Int)) =>
         M.bif (decide (x1 < ((atD c1 (atD way1 ((way1.length : Int) - 1))).length : Int)))
           (M.chk ((0 : Int) ≤ x1 ∧ x1 < ((atD c1 (atD way1 ((way1.length : Int) - 1))).length : Int)) <|
            M.chk ((0 : Int) < (way1.length : Int)) <|
            M.chk (way1.length + ([(atD (atD c1 (atD way1 ((way1.length : Int) - 1))) x1)] : List Int).length < 1000000000000 ∧ (0 : Int) < (way1.length : Int) ∧ (0 : Int) < (([(atD (atD c1 (atD way1 ((way1.length : Int) - 1))) x1)] : List Int).length : Int)) <|
            M.call (self (way1 ++ ([(atD (atD c1 (atD way1 ((way1.length : Int) - 1))) x1)] : List Int)) c1 own1 c3) fun x2 =>
            M.bif (!x2.1)
              (M.ret (false, x2.2))
              (M.chk (okI (x1 + 1)) <|
               again1 ((x1 + 1), x2.2)))
           (M.ret (true, own1))) (0, c2))
def bound_Paths_1_at : Nat → (List Int) → (List (List Int)) → (List (List Int)) → Int → M (Bool × List (List Int))
  | 0 => fun _ _ _ _ => M.none
  | depth + 1 => bound_Paths_1_body (bound_Paths_1_at depth)
def bound_Paths_1 (way1 : List Int) (c1 : List (List Int)) (c2 : List (List Int)) (c3 : Int) : M (Bool × List (List Int)) := M.fix fun depth => bound_Paths_1_at depth way1 c1 c2 c3
def bound_Paths (g1 : List (List Int)) (most1 : Int) : M (List (List Int) × Int) :=
  M.call (callgraph_Check g1) fun x1 =>
  M.bif (!x1)
    (M.ret (([] : List (List Int)), 4))
    (M.bif (decide (most1 < 1))
       (M.ret (([] : List (List Int)), 4))
       (M.bif (decide (4096 < most1))
          (M.ret (([] : List (List Int)), 4))
          (M.call (cycle_Order g1) fun x2 =>
           M.bif (!decide (x2.2 = 0))
             (M.ret (([] : List (List Int)), x2.2))
             (M.call (bound_Paths_1 ([0] : List Int) g1 ([] : List (List Int)) most1) fun x3 =>
              M.bif (!x3.1)
                (M.ret (([] : List (List Int)), 3))
                (M.ret (x3.2, 0))))))
def r04_Check (s1 : List Int) : M (Bool) :=
  M.loop (fun again1 (i1 : Int) =>
      M.bif (decide (i1 < (s1.length : Int)))
        (M.chk ((0 : Int) ≤ i1 ∧ i1 < (s1.length : Int)) <|
         M.call (r04_good (atD s1 i1)) fun x1 =>
         M.bif (!x1)
           (M.ret false)
           (M.bif (decide (0 < i1))
              (M.chk ((0 : Int) ≤ i1 ∧ i1 < (s1.length : Int)) <|
               M.chk (okI (i1 - 1)) <|
               M.chk ((0 : Int) ≤ (i1 - 1) ∧ (i1 - 1) < (s1.length : Int)) <|
               M.bif (decide ((atD s1 i1) ≤ (atD s1 (i1 - 1))))
                 (M.ret false)
                 (M.chk (okI (i1 + 1)) <|
                  again1 (i1 + 1)))
              (M.chk (okI (i1 + 1)) <|
               again1 (i1 + 1))))
        (M.ret true)) 0
def r27_Check (g1 : List (List Int)) : M (Bool) :=
  M.bif (decide ((g1.length : Int) < 1))
    (M.ret false)
    (M.bif (decide (80 < (g1.length : Int)))
       (M.ret false)
       (M.loop (fun again1 (i1 : Int) =>
            M.bif (decide (i1 < (g1.length : Int)))
              (M.chk ((0 : Int) ≤ i1 ∧ i1 < (g1.length : Int)) <|
               M.call (r04_Check (atD g1 i1)) fun x1 =>
               M.bif (!x1)
                 (M.ret false)
                 (M.chk ((0 : Int) ≤ i1 ∧ i1 < (g1.length : Int)) <|
                  M.bif (decide (0 < ((atD g1 i1).length : Int)))
                    (M.chk ((0 : Int) ≤ i1 ∧ i1 < (g1.length : Int)) <|
                     M.chk ((0 : Int) ≤ i1 ∧ i1 < (g1.length : Int)) <|
                     M.chk (okI (((atD g1 i1).length : Int) - 1)) <|
                     M.chk ((0 : Int) ≤ (((atD g1 i1).length : Int) - 1) ∧ (((atD g1 i1).length : Int) - 1) < ((atD g1 i1).length : Int)) <|
                     M.bif (decide ((g1.length : Int) ≤ (atD (atD g1 i1) (((atD g1 i1).length : Int) - 1))))
                       (M.ret false)
                       (M.chk (okI (i1 + 1)) <|
                        again1 (i1 + 1)))
                    (M.chk (okI (i1 + 1)) <|
                     again1 (i1 + 1))))
              (M.ret true)) 0))
def r04_Has (s1 : List Int) (n1 : Int) : M (Bool) :=
  M.loop (fun again1 (i1 : Int) =>
      M.bif (decide (i1 < (s1.length : Int)))
        (M.chk ((0 : Int) ≤ i1 ∧ i1 < (s1.length : Int)) <|
         M.bif (decide ((atD s1 i1) = n1))
           (M.ret true)
           (M.chk (okI (i1 + 1)) <|
            again1 (i1 + 1)))
        (M.ret false)) 0
def r04_Minus (a1 : List Int) (b1 : List Int) : M (List Int) :=
  M.loop (fun again1 ((i1, out1) : Int × List Int) =>
      M.bif (decide (i1 < (a1.length : Int)))
        (M.chk ((0 : Int) ≤ i1 ∧ i1 < (a1.length : Int)) <|
         M.call (r04_Has b1 (atD a1 i1)) fun x1 =>
         M.bif (!x1)
           (M.chk ((0 : Int) ≤ i1 ∧ i1 < (a1.length : Int)) <|
            M.chk (out1.length + ([(atD a1 i1)] : List Int).length < 1000000000000) <|
            M.chk (okI (i1 + 1)) <|
            again1 ((i1 + 1), (out1 ++ ([(atD a1 i1)] : List Int))))
           (M.chk (okI (i1 + 1)) <|
            again1 ((i1 + 1), out1)))
        (M.ret out1)) (0, ([] : List Int))
def r04_Within (a1 : List Int) (b1 : List Int) : M (Bool) :=
  M.call (r04_Minus a1 b1) fun x1 =>
  M.ret (decide ((x1.length : Int) = 0))
def r28_Order (g1 : List (List Int)) : M (List Int × Int) :=
  M.loop (fun again1 ((done1, out1) : List Int × List Int) =>
      M.bif (decide ((out1.length : Int) < (g1.length : Int)))
        (M.join (fun (next1 : Int) =>
             M.bif (decide (next1 < 0))
               (M.ret (([] : List Int), 8))
               (M.chk (out1.length + ([next1] : List Int).length < 1000000000000) <|
                M.call (r04_Add done1 next1) fun x1 =>
                again1 (x1, (out1 ++ ([next1] : List Int))))) fun k1 =>
         M.loop (fun again2 ((next2, i1) : Int × Int) =>
             M.bif (decide (i1 < (g1.length : Int)))
               (M.bif (decide (next2 < 0))
                  (M.call (r04_Has done1 i1) fun x2 =>
                   M.bif (!x2)
                     (M.chk ((0 : Int) ≤ i1 ∧ i1 < (g1.length : Int)) <|
                      M.call (r04_Within (atD g1 i1) done1) fun x3 =>
                      M.bif x3
                        (M.chk (okI (i1 + 1)) <|
                         again2 (i1, (i1 + 1)))
                        (M.chk (okI (i1 + 1)) <|
                         again2 (next2, (i1 + 1))))
                     (M.chk (okI (i1 + 1)) <|
                      again2 (next2, (i1 + 1))))
                  (k1 next2))
               (k1 next2)) ((-1), 0))
        (M.ret (out1, 0))) (([] : List Int), ([] : List Int))
def r29_ways_body (self : (List (List Int)) → Int → (List (List Int)) → (List Int) → M (List (List Int))) (g1 : List (List Int)) (most1 : Int) (out1 : List (List Int)) (way1 : List Int) : M (List (List Int)) :=
  M.chk (okI ((way1.length : Int) - 1)) <|
  M.chk ((0 : Int) ≤ ((way1.length : Int) - 1) ∧ ((way1.length : Int) - 1) < (way1.length : Int)) <|
  M.chk ((0 : Int) ≤ (atD way1 ((way1.length : Int) - 1)) ∧ (atD way1 ((way1.length : Int) - 1)) < (g1.length : Int)) <|
  M.bif (decide (((atD g1 (atD way1 ((way1.length : Int) - 1))).length : Int) = 0))
    (M.chk (out1.length + ([way1] : List (List Int)).length < 1000000000000) <|
     M.ret (out1 ++ ([way1] : List (List Int))))
    (M.loop (fun again1 ((k1, out2) : Int × List (List Int)) =>
         M.bif (decide (k1 < ((atD g1 (atD way1 ((way1.length : Int) - 1))).length : Int)))
           (M.bif (decide ((out2.length : Int) ≤ most1))
              (M.chk (way1.length < 1000000000000) <|
               M.chk ((0 : Int) ≤ k1 ∧ k1 < ((atD g1 (atD way1 ((way1.length : Int) - 1))).length : Int)) <|
               M.chk (way1.length + ([(atD (atD g1 (atD way1 ((way1.length : Int) - 1))) k1)] : List Int).length < 1000000000000) <|
               M.call (self g1 most1 out2 (way1 ++ ([(atD (atD g1 (atD way1 ((way1.length : Int) - 1))) k1)] : List Int))) fun x1 =>
               M.chk (okI (k1 + 1)) <|
               again1 ((k1 + 1), x1))
              (M.ret out2))
           (M.ret out2)) (0, out1))
def r29_ways_at : Nat → (List (List Int)) → Int → (List (List Int)) → (List Int) → M (List (List Int))
  | 0 => fun _ _ _ _ => M.none
  | depth + 1 => r29_ways_body (r29_ways_at depth)
def r29_ways (g1 : List (List Int)) (most1 : Int) (out1 : List (List Int)) (way1 : List Int) : M (List (List Int)) := M.fix fun depth => r29_ways_at depth g1 most1 out1 way1
def r29_ways_n2 (g1 : List (List Int)) (most1 : Int) (way1 : List Int) : M (List (List Int)) :=
  M.chk (okI ((way1.length : Int) - 1)) <|
  M.chk ((0 : Int) ≤ ((way1.length : Int) - 1) ∧ ((way1.length : Int) - 1) < (way1.length : Int)) <|
  M.chk ((0 : Int) ≤ (atD way1 ((way1.length : Int) - 1)) ∧ (atD way1 ((way1.length : Int) - 1)) < (g1.length : Int)) <|
  M.bif (decide (((atD g1 (atD way1 ((way1.length : Int) - 1))).length : Int) = 0))
    (M.chk (([] : List (List Int)).length + ([way1] : List (List Int)).length < 1000000000000) <|
     M.ret (([] : List (List Int)) ++ ([way1] : List (List Int))))
    (M.loop (fun again1 ((k1, out2) : Int × List (List Int)) =>
         M.bif (decide (k1 < ((atD g1 (atD way1 ((way1.length : Int) - 1))).length : Int)))
           (M.bif (decide ((out2.length : Int) ≤ most1))
              (M.chk (way1.length < 1000000000000) <|
               M.chk ((0 : Int) ≤ k1 ∧ k1 < ((atD g1 (atD way1 ((way1.length : Int) - 1))).length : Int)) <|
               M.chk (way1.length + ([(atD (atD g1 (atD way1 ((way1.length : Int) - 1))) k1)] : List Int).length < 1000000000000) <|
               M.call (r29_ways g1 most1 out2 (way1 ++ ([(atD (atD g1 (atD way1 ((way1.length : Int) - 1))) k1)] : List Int))) fun x1 =>
               M.chk (okI (k1 + 1)) <|
               again1 ((k1 + 1), x1))
              (M.ret out2))
           (M.ret out2)) (0, ([] : List (List Int))))
def r29_Paths (g1 : List (List Int)) (most1 : Int) : M (List (List Int) × Int) :=
  M.call (r27_Check g1) fun x1 =>
  M.bif (!x1)
    (M.ret (([] : List (List Int)), 4))
    (M.bif (decide (most1 < 1))
       (M.ret (([] : List (List Int)), 4))
       (M.bif (decide (4096 < most1))
          (M.ret (([] : List (List Int)), 4))
          (M.call (r28_Order g1) fun x2 =>
           M.bif (!decide (x2.2 = 0))
             (M.ret (([] : List (List Int)), x2.2))
             (M.call (r29_ways_n2 g1 most1 ([0] : List Int)) fun x3 =>
              M.bif (decide (most1 < (x3.length : Int)))
                (M.ret (([] : List (List Int)), 3))
                (M.ret (x3, 0))))))
def r04_Same (a1 : List Int) (b1 : List Int) : M (Bool) :=
  M.bif (!decide ((a1.length : Int) = (b1.length : Int)))
    (M.ret false)
    (M.loop (fun again1 (i1 : Int) =>
         M.bif (decide (i1 < (a1.length : Int)))
           (M.chk ((0 : Int) ≤ i1 ∧ i1 < (a1.length : Int)) <|
            M.chk ((0 : Int) ≤ i1 ∧ i1 < (b1.length : Int)) <|
            M.bif (!decide ((atD a1 i1) = (atD b1 i1)))
              (M.ret false)
              (M.chk (okI (i1 + 1)) <|
               again1 (i1 + 1)))
           (M.ret true)) 0)
def r04_SameAll (a1 : List (List Int)) (b1 : List (List Int)) : M (Bool) :=
  M.bif (!decide ((a1.length : Int) = (b1.length : Int)))
    (M.ret false)
    (M.loop (fun again1 (i1 : Int) =>
         M.bif (decide (i1 < (a1.length : Int)))
           (M.chk ((0 : Int) ≤ i1 ∧ i1 < (a1.length : Int)) <|
            M.chk ((0 : Int) ≤ i1 ∧ i1 < (b1.length : Int)) <|
            M.call (r04_Same (atD a1 i1) (atD b1 i1)) fun x1 =>
            M.bif (!x1)
              (M.ret false)
              (M.chk (okI (i1 + 1)) <|
               again1 (i1 + 1)))
           (M.ret true)) 0)
def law29_BoundPaths (codes1 : List Int) (most1 : Int) (raw1 : List (List Int)) : M (Bool) :=
  M.call (law29_awake) fun x1 =>
  M.bif (!x1)
    (M.ret (decide (30 < (raw1.length : Int))))
    (M.bif (decide (30 < (raw1.length : Int)))
       (M.ret (decide (30 < (raw1.length : Int))))
       (M.call (law29_scene codes1) fun x2 =>
        M.loop (fun again1 ((x3, c1) : Int × DCodes) =>
            M.bif (decide (x3 < (([x2.1, raw1] : List (List (List Int))).length : Int)))
              (M.chk ((0 : Int) ≤ x3 ∧ x3 < (([x2.1, raw1] : List (List (List Int))).length : Int)) <|
               M.call (draw_Next c1 20) fun x4 =>
               M.chk (okI ((1 : Int) + x4.1)) <|
               M.loop (fun again2 (x5 : Int) =>
                   M.bif (decide (x5 < (([most1, ((1 : Int) + x4.1), 200] : List Int).length : Int)))
                     (M.chk ((0 : Int) ≤ x5 ∧ x5 < (([most1, ((1 : Int) + x4.1), 200] : List Int).length : Int)) <|
                      M.join (fun (n3 : Int) =>
                          M.call (bound_Paths (atD ([x2.1, raw1] : List (List (List Int))) x3) n3) fun x6 =>
                          M.call (r29_Paths (atD ([x2.1, raw1] : List (List (List Int))) x3) n3) fun x7 =>
                          M.bif (!decide (x6.2 = x7.2))
                            (M.ret false)
                            (M.call (r04_SameAll x6.1 x7.1) fun x8 =>
                             M.bif (!x8)
                               (M.ret false)
                               (M.chk (okI (x5 + 1)) <|
                                again2 (x5 + 1)))) fun k1 =>
                      M.bif (decide (300 < (atD ([most1, ((1 : Int) + x4.1), 200] : List Int) x5)))
                        (M.bif (decide ((atD ([most1, ((1 : Int) + x4.1), 200] : List Int) x5) ≤ 4096))
                           (k1 300)
                           (k1 (atD ([most1, ((1 : Int) + x4.1), 200] : List Int) x5)))
                        (k1 (atD ([most1, ((1 : Int) + x4.1), 200] : List Int) x5)))
                     (M.chk (okI (x3 + 1)) <|
                      again1 ((x3 + 1), x4.2))) 0)
              (M.ret true)) (0, x2.2.2)))
def bound_Path (g1 : List (List Int)) (w1 : List Int) : M (List Int × Int) :=
  M.call (bound_All g1 w1) fun x1 =>
  M.bif (!decide (x1.2 = 0))
    (M.ret (([] : List Int), x1.2))
    (M.chk ((0 : Int) ≤ 0 ∧ 0 < (g1.length : Int)) <|
     M.loop (fun again1 ((next1, way1) : List Int × List Int) =>
         M.bif (decide (0 < (next1.length : Int)))
           (M.chk ((0 : Int) ≤ 0 ∧ 0 < (next1.length : Int)) <|
            M.loop (fun again2 ((best1, x2) : Int × Int) =>
                M.bif (decide (x2 < (next1.length : Int)))
                  (M.chk ((0 : Int) ≤ x2 ∧ x2 < (next1.length : Int)) <|
                   M.chk ((0 : Int) ≤ (atD next1 x2) ∧ (atD next1 x2) < (x1.1.length : Int)) <|
                   M.chk ((0 : Int) ≤ best1 ∧ best1 < (x1.1.length : Int)) <|
                   M.bif (decide ((atD x1.1 best1) < (atD x1.1 (atD next1 x2))))
                     (M.chk (okI (x2 + 1)) <|
                      again2 ((atD next1 x2), (x2 + 1)))
                     (M.chk (okI (x2 + 1)) <|
                      again2 (best1, (x2 + 1))))
                  (M.chk (way1.length + ([best1] : List Int).length < 1000000000000) <|
                   M.chk ((0 : Int) ≤ best1 ∧ best1 < (g1.length : Int)) <|
                   again1 ((atD g1 best1), (way1 ++ ([best1] : List Int))))) ((atD next1 0), 0))
           (M.ret (way1, 0))) ((atD g1 0), ([0] : List Int)))
def r29_Sum (w1 : List Int) (way1 : List Int) : M (Int) :=
  M.loop (fun again1 ((n1, i1) : Int × Int) =>
      M.bif (decide (i1 < (way1.length : Int)))
        (M.chk ((0 : Int) ≤ i1 ∧ i1 < (way1.length : Int)) <|
         M.bif (decide (0 ≤ (atD way1 i1)))
           (M.chk ((0 : Int) ≤ i1 ∧ i1 < (way1.length : Int)) <|
            M.bif (decide ((atD way1 i1) < (w1.length : Int)))
              (M.chk ((0 : Int) ≤ i1 ∧ i1 < (way1.length : Int)) <|
               M.chk ((0 : Int) ≤ (atD way1 i1) ∧ (atD way1 i1) < (w1.length : Int)) <|
               M.chk (okI (n1 + (atD w1 (atD way1 i1)))) <|
               M.chk (okI (i1 + 1)) <|
               again1 ((n1 + (atD w1 (atD way1 i1))), (i1 + 1)))
              (M.chk (okI (i1 + 1)) <|
               again1 (n1, (i1 + 1))))
           (M.chk (okI (i1 + 1)) <|
            again1 (n1, (i1 + 1))))
        (M.ret n1)) (0, 0)
def law29_BoundIsTheGreatestSum (codes1 : List Int) : M (Bool) :=
  M.call (law29_awake) fun x1 =>
  M.bif (!x1)
    (M.ret false)
    (M.call (draw_New codes1 120) fun x2 =>
     M.call (draw_Graph x2 7 true) fun x3 =>
     M.loop (fun again1 ((i1, c1, w1) : Int × DCodes × List Int) =>
         M.bif (decide (i1 < (x3.1.length : Int)))
           (M.call (draw_Next c1 20) fun x4 =>
            M.chk (okI ((16 : Int) * x4.1)) <|
            M.chk (w1.length + ([((16 : Int) * x4.1)] : List Int).length < 1000000000000) <|
            M.chk (okI (i1 + 1)) <|
            again1 ((i1 + 1), x4.2, (w1 ++ ([((16 : Int) * x4.1)] : List Int))))
           (M.call (bound_All x3.1 w1) fun x5 =>
            M.call (bound_Path x3.1 w1) fun x6 =>
            M.call (bound_Paths x3.1 4096) fun x7 =>
            M.bif (!decide (x5.2 = 0))
              (M.ret false)
              (M.bif (!decide (x6.2 = 0))
                 (M.ret false)
                 (M.bif (!decide (x7.2 = 0))
                    (M.ret false)
                    (M.bif (!decide ((x5.1.length : Int) = (x3.1.length : Int)))
                       (M.ret false)
                       (M.loop (fun again2 ((w2, most1, found1, i2) : List Int × Int × Bool × Int) =>
                            M.bif (decide (i2 < (x7.1.length : Int)))
                              (M.chk ((0 : Int) ≤ i2 ∧ i2 < (x7.1.length : Int)) <|
                               M.call (r29_Sum w2 (atD x7.1 i2)) fun x8 =>
                               M.bif found1
                                 (M.chk (okI (i2 + 1)) <|
                                  again2 (w2, (max most1 x8), true, (i2 + 1)))
                                 (M.chk ((0 : Int) ≤ i2 ∧ i2 < (x7.1.length : Int)) <|
                                  M.call (r04_Same (atD x7.1 i2) x6.1) fun x9 =>
                                  M.chk (okI (i2 + 1)) <|
                                  again2 (w2, (max most1 x8), x9, (i2 + 1))))
                              (M.bif (decide (0 < (x7.1.length : Int)))
                                 (M.bif found1
                                    (M.chk ((0 : Int) ≤ 0 ∧ 0 < (x5.1.length : Int)) <|
                                     M.bif (decide ((atD x5.1 0) = most1))
                                       (M.call (r29_Sum w2 x6.1) fun x10 =>
                                        M.ret (decide (x10 = most1)))
                                       (M.ret false))
                                    (M.ret false))
                                 (M.ret false))) (w1, 0, false, 0))))))) (0, x3.2, ([] : List Int)))
end Go.Proofs.YtpjmpkgllnomaaaDoor.Q
