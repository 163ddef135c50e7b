/- The data of the program, and its functions as lifted texts (written by a program). -/
import Derived.Test.YtcmiokobfkaldaaPureB
import Derived.Shelf.SlSortCmp.Insertion
set_option linter.unusedVariables false
namespace Go.Proofs.Ytcmiokobfkaldaa.Q
/-- What the package bitset does (known by hand). -/
def in512 (n : Int) : Bool := decide (0 ≤ n ∧ n < 512)
def setOf (l : List Int) : List Int := ((List.range 512).filter fun k : Nat => decide ((k : Int) ∈ l)).map fun k : Nat => (k : Int)
/-- In order, all of them in range. -/
def ascS (l : List Int) : Bool := (List.range l.length).all fun j => in512 (l.getD j 0) && (decide (j = 0) || decide (l.getD (j - 1) 0 < l.getD j 0))
structure DCodes where
  list : List Int
  at_ : Int
  deriving DecidableEq
instance : Inhabited DCodes := ⟨⟨[], 0⟩⟩
structure AInterval where
  Off : Int
  Size : Int
  deriving DecidableEq
instance : Inhabited AInterval := ⟨⟨0, 0⟩⟩
/-- What slices.SortFunc makes of a row. -/
@[irreducible] def sort_extent_Fit_2 (l : List AInterval) : List AInterval := (Go.Sort.pdq (Go.Proofs.ltOf fun x y : AInterval => Go.Lib.compareInt x.Off y.Off) l.toArray 0 l.length (Go.Lib.bitLen l.length) true true).toList
def extent_bound (n1 : Int) : M (Bool) :=
  M.bif (decide (0 ≤ n1))
    (M.ret (decide (n1 ≤ 2147483647)))
    (M.ret false)
def extent_Power (n1 : Int) : M (Bool) :=
  M.bif (decide (1 ≤ n1))
    (M.bif (decide (n1 ≤ 16777216))
       (M.chk (okI (n1 - 1)) <|
        M.ret (decide ((Go.bits .and .i64 n1 (n1 - 1)) = 0)))
       (M.ret false))
    (M.ret false)
def extent_up (n1 : Int) (align1 : Int) : M (Int) :=
  M.chk (okI (n1 + align1)) <|
  M.chk (okI ((n1 + align1) - 1)) <|
  M.chk (okI (align1 - 1)) <|
  M.ret (Go.bits .andNot .i64 ((n1 + align1) - 1) (align1 - 1))
def extent_limited (n1 : Int) : M (Int × Int) :=
  M.bif (decide (2147483647 < n1))
    (M.ret (0, 9))
    (M.ret (n1, 0))
def extent_Up (n1 : Int) (align1 : Int) : M (Int × Int) :=
  M.call (extent_bound n1) fun x1 =>
  M.bif (!x1)
    (M.ret (0, 4))
    (M.call (extent_Power align1) fun x2 =>
     M.bif (!x2)
       (M.ret (0, 4))
       (M.call (extent_up n1 align1) fun x3 =>
        M.call (extent_limited x3) fun x4 =>
        M.ret (x4.1, x4.2)))
def law03_awake  : M (Bool) :=
  M.call (extent_Up 17 16) fun x1 =>
  M.bif (decide (x1.1 = 32))
    (M.ret (decide (x1.2 = 0)))
    (M.ret false)
def draw_New (list1 : List Int) (limit1 : Int) : M (DCodes) :=
  M.chk ((0 : Int) ≤ 0 ∧ 0 ≤ (min (list1.length : Int) limit1) ∧ (min (list1.length : Int) limit1) ≤ (list1.length : Int)) <|
  M.ret (⟨(sliceD list1 0 (min (list1.length : Int) limit1)), 0⟩ : DCodes)
def draw_Left (c1 : DCodes) : M (Bool × DCodes) :=
  M.ret ((decide (c1.at_ < (c1.list.length : Int))), c1)
def draw_Next (c1 : DCodes) (n1 : Int) : M (Int × DCodes) :=
  M.call (draw_Left c1) fun x1 =>
  M.bif (!x1.1)
    (M.ret (0, x1.2))
    (M.bif (decide (n1 < 1))
       (M.ret (0, x1.2))
       (M.chk ((0 : Int) ≤ x1.2.at_ ∧ x1.2.at_ < (x1.2.list.length : Int)) <|
        M.chk (okI (atD x1.2.list x1.2.at_)) <|
        M.chk (okI (x1.2.at_ + 1)) <|
        M.chk (okI ((atD x1.2.list x1.2.at_) * n1)) <|
        M.chk ((0 : Int) ≤ ((atD x1.2.list x1.2.at_) * n1) ∧ (0 : Int) < 256 ∧ ((atD x1.2.list x1.2.at_) * n1) ≤ 9223372036854775807) <|
        M.ret ((((atD x1.2.list x1.2.at_) * n1) / 256), (⟨x1.2.list, (x1.2.at_ + 1)⟩ : DCodes))))
def law03_used (c1 : DCodes) : M (List AInterval × DCodes) :=
  M.call (draw_Next c1 8) fun x1 =>
  M.loop (fun again1 ((n1, c2, l1) : Int × DCodes × List AInterval) =>
      M.bif (decide (0 < n1))
        (M.call (draw_Next c2 60) fun x2 =>
         M.call (draw_Next x2.2 17) fun x3 =>
         M.chk (l1.length + ([(⟨x2.1, x3.1⟩ : AInterval)] : List AInterval).length < 1000000000000) <|
         M.chk (okI (n1 - 1)) <|
         again1 ((n1 - 1), x3.2, (l1 ++ ([(⟨x2.1, x3.1⟩ : AInterval)] : List AInterval))))
        (M.ret (l1, c2))) (x1.1, x1.2, ([] : List AInterval))
def extent_right (a1 : AInterval) : M (Bool) :=
  M.call (extent_bound a1.Off) fun x1 =>
  M.bif x1
    (M.call (extent_bound a1.Size) fun x2 =>
     M.bif x2
       (M.chk (okI (a1.Off + a1.Size)) <|
        M.ret (decide ((a1.Off + a1.Size) ≤ 2147483647)))
       (M.ret false))
    (M.ret false)
def extent_Fit_1 (a1 : AInterval) : M (Bool) :=
  M.call (extent_right a1) fun x1 =>
  M.ret (!x1)
def slices_Clone___api_Interval_api_Interval_ (s1 : List AInterval) : M (List AInterval) :=
  M.both (s1 = [])
    (M.ret ([] : List AInterval))
    (M.chk (([] : List AInterval).length + s1.length < 1000000000000) <|
     M.ret (([] : List AInterval) ++ s1))
def extent_meet (a1 : AInterval) (b1 : AInterval) : M (Bool) :=
  M.chk (okI (a1.Off + a1.Size)) <|
  M.chk (okI (b1.Off + b1.Size)) <|
  M.ret (decide ((max a1.Off b1.Off) < (min (a1.Off + a1.Size) (b1.Off + b1.Size))))
def slices_IndexFunc___api_Interval_api_Interval__of_extent_Fit_1 (s1 : List AInterval) : M (Int) :=
  M.loop (fun again1 (x1 : Int) =>
      M.bif (decide (x1 < (s1.length : Int)))
        (M.chk ((0 : Int) ≤ x1 ∧ x1 < (s1.length : Int)) <|
         M.call (extent_Fit_1 (atD s1 x1)) fun x2 =>
         M.bif x2
           (M.ret x1)
           (M.chk (okI (x1 + 1)) <|
            again1 (x1 + 1)))
        (M.ret (-1))) 0
def slices_ContainsFunc___api_Interval_api_Interval__of_extent_Fit_1 (s1 : List AInterval) : M (Bool) :=
  M.call (slices_IndexFunc___api_Interval_api_Interval__of_extent_Fit_1 s1) fun x1 =>
  M.ret (decide (0 ≤ x1))
def extent_Fit (used1 : List AInterval) (from1 : Int) (size1 : Int) (align1 : Int) : M (Int × Int) :=
  M.call (extent_bound from1) fun x1 =>
  M.bif (!x1)
    (M.ret (0, 4))
    (M.call (extent_bound size1) fun x2 =>
     M.bif (!x2)
       (M.ret (0, 4))
       (M.call (extent_Power align1) fun x3 =>
        M.bif (!x3)
          (M.ret (0, 4))
          (M.call (slices_ContainsFunc___api_Interval_api_Interval__of_extent_Fit_1 used1) fun x4 =>
           M.bif x4
             (M.ret (0, 4))
             (M.call (slices_Clone___api_Interval_api_Interval_ used1) fun x5 =>
              M.chk (x5.length < 4611686018427387904) <|
              M.call (extent_up from1 align1) fun x6 =>
              M.loop (fun again1 ((at1, x7) : Int × Int) =>
                  M.bif (decide (x7 < ((sort_extent_Fit_2 x5).length : Int)))
                    (M.chk ((0 : Int) ≤ x7 ∧ x7 < ((sort_extent_Fit_2 x5).length : Int)) <|
                     M.call (extent_meet (atD (sort_extent_Fit_2 x5) x7) (⟨at1, size1⟩ : AInterval)) fun x8 =>
                     M.bif x8
                       (M.chk (okI (((atD (sort_extent_Fit_2 x5) x7).Off) + ((atD (sort_extent_Fit_2 x5) x7).Size))) <|
                        M.call (extent_up (((atD (sort_extent_Fit_2 x5) x7).Off) + ((atD (sort_extent_Fit_2 x5) x7).Size)) align1) fun x9 =>
                        M.chk (okI (x7 + 1)) <|
                        again1 (x9, (x7 + 1)))
                       (M.chk (okI (x7 + 1)) <|
                        again1 (at1, (x7 + 1))))
                    (M.chk (okI (at1 + size1)) <|
                     M.bif (decide (2147483647 < (at1 + size1)))
                       (M.ret (0, 9))
                       (M.ret (at1, 0)))) (x6, 0)))))
def r03_Bound (n1 : Int) : M (Bool) :=
  M.bif (decide (0 ≤ n1))
    (M.ret (decide (n1 ≤ 2147483647)))
    (M.ret false)
def r03_Power (n1 : Int) : M (Bool) :=
  M.loop (fun again1 (k1 : Int) =>
      M.bif (decide (k1 ≤ 16777216))
        (M.bif (decide (n1 = k1))
           (M.ret true)
           (M.chk (okI (k1 * 2)) <|
            again1 (k1 * 2)))
        (M.ret false)) 1
def r03_Right (a1 : AInterval) : M (Bool) :=
  M.call (r03_Bound a1.Off) fun x1 =>
  M.bif x1
    (M.call (r03_Bound a1.Size) fun x2 =>
     M.bif x2
       (M.chk (okI (a1.Off + a1.Size)) <|
        M.ret (decide ((a1.Off + a1.Size) ≤ 2147483647)))
       (M.ret false))
    (M.ret false)
def r03_Up (n1 : Int) (align1 : Int) : M (Int × Int) :=
  M.call (r03_Bound n1) fun x1 =>
  M.bif (!x1)
    (M.ret (0, 4))
    (M.call (r03_Power align1) fun x2 =>
     M.bif (!x2)
       (M.ret (0, 4))
       (M.join (fun (m1 : Int) =>
            M.bif (decide (2147483647 < m1))
              (M.ret (0, 9))
              (M.ret (m1, 0))) fun k1 =>
        M.chk ((0 : Int) ≤ n1 ∧ (0 : Int) < align1) <|
        M.bif (!decide ((n1 % align1) = 0))
          (M.chk ((0 : Int) ≤ n1 ∧ (0 : Int) < align1) <|
           M.chk (okI (n1 - (n1 % align1))) <|
           M.chk (okI ((n1 - (n1 % align1)) + align1)) <|
           k1 ((n1 - (n1 % align1)) + align1))
          (k1 n1)))
def r03_Overlap (a1 : AInterval) (b1 : AInterval) : M (Bool) :=
  M.call (r03_Right a1) fun x1 =>
  M.bif x1
    (M.call (r03_Right b1) fun x2 =>
     M.bif x2
       (M.bif (decide (0 < a1.Size))
          (M.bif (decide (0 < b1.Size))
             (M.chk (okI (b1.Off + b1.Size)) <|
              M.bif (decide (a1.Off < (b1.Off + b1.Size)))
                (M.chk (okI (a1.Off + a1.Size)) <|
                 M.ret (decide (b1.Off < (a1.Off + a1.Size))))
                (M.ret false))
             (M.ret false))
          (M.ret false))
       (M.ret false))
    (M.ret false)
def r03_free (used1 : List AInterval) (x1 : AInterval) : M (Bool) :=
  M.loop (fun again1 (i1 : Int) =>
      M.bif (decide (i1 < (used1.length : Int)))
        (M.chk ((0 : Int) ≤ i1 ∧ i1 < (used1.length : Int)) <|
         M.call (r03_Overlap (atD used1 i1) x1) fun x2 =>
         M.bif x2
           (M.ret false)
           (M.chk (okI (i1 + 1)) <|
            again1 (i1 + 1)))
        (M.ret true)) 0
def r03_Fit (used1 : List AInterval) (from1 : Int) (size1 : Int) (align1 : Int) : M (Int × Int) :=
  M.call (r03_Bound from1) fun x1 =>
  M.bif (!x1)
    (M.ret (0, 4))
    (M.call (r03_Bound size1) fun x2 =>
     M.bif (!x2)
       (M.ret (0, 4))
       (M.call (r03_Power align1) fun x3 =>
        M.bif (!x3)
          (M.ret (0, 4))
          (M.loop (fun again1 (i1 : Int) =>
               M.bif (decide (i1 < (used1.length : Int)))
                 (M.chk ((0 : Int) ≤ i1 ∧ i1 < (used1.length : Int)) <|
                  M.call (r03_Right (atD used1 i1)) fun x4 =>
                  M.bif (!x4)
                    (M.ret (0, 4))
                    (M.chk (okI (i1 + 1)) <|
                     again1 (i1 + 1)))
                 (M.loop (fun again2 ((best1, found1, i2) : Int × Bool × Int) =>
                      M.bif (decide (i2 < (used1.length : Int)))
                        (M.join (fun (at1 : Int) =>
                             M.call (r03_Up at1 align1) fun x5 =>
                             M.bif (decide (x5.2 = 0))
                               (M.call (r03_Right (⟨x5.1, size1⟩ : AInterval)) fun x6 =>
                                M.bif x6
                                  (M.call (r03_free used1 (⟨x5.1, size1⟩ : AInterval)) fun x7 =>
                                   M.bif x7
                                     (M.bif (!found1)
                                        (M.chk (okI (i2 + 1)) <|
                                         again2 (x5.1, true, (i2 + 1)))
                                        (M.bif (decide (x5.1 < best1))
                                           (M.chk (okI (i2 + 1)) <|
                                            again2 (x5.1, true, (i2 + 1)))
                                           (M.chk (okI (i2 + 1)) <|
                                            again2 (best1, found1, (i2 + 1)))))
                                     (M.chk (okI (i2 + 1)) <|
                                      again2 (best1, found1, (i2 + 1))))
                                  (M.chk (okI (i2 + 1)) <|
                                   again2 (best1, found1, (i2 + 1))))
                               (M.chk (okI (i2 + 1)) <|
                                again2 (best1, found1, (i2 + 1)))) fun k1 =>
                         M.bif (decide (0 ≤ i2))
                           (M.chk ((0 : Int) ≤ i2 ∧ i2 < (used1.length : Int)) <|
                            M.chk ((0 : Int) ≤ i2 ∧ i2 < (used1.length : Int)) <|
                            M.chk (okI (((atD used1 i2).Off) + ((atD used1 i2).Size))) <|
                            k1 (max from1 (((atD used1 i2).Off) + ((atD used1 i2).Size))))
                           (k1 from1))
                        (M.bif (!found1)
                           (M.ret (0, 9))
                           (M.ret (best1, 0)))) (0, false, (-1)))) 0)))
def law03_ExtentFit (codes1 : List Int) (raw1 : List AInterval) (from1 : Int) (size1 : Int) (align1 : Int) : M (Bool) :=
  M.call (law03_awake) fun x1 =>
  M.bif (!x1)
    (M.ret (decide (50 < (raw1.length : Int))))
    (M.bif (decide (50 < (raw1.length : Int)))
       (M.ret (decide (50 < (raw1.length : Int))))
       (M.call (draw_New codes1 60) fun x2 =>
        M.call (law03_used x2) fun x3 =>
        M.call (extent_Fit raw1 from1 size1 align1) fun x4 =>
        M.call (r03_Fit raw1 from1 size1 align1) fun x5 =>
        M.bif (!decide (x4.1 = x5.1))
          (M.ret false)
          (M.bif (!decide (x4.2 = x5.2))
             (M.ret false)
             (M.join (fun ((c1, l1) : DCodes × List AInterval) =>
                  M.call (draw_Next c1 40) fun x6 =>
                  M.call (draw_Next x6.2 17) fun x7 =>
                  M.call (draw_Next x7.2 7) fun x8 =>
                  M.chk ((0 : Int) ≤ x8.1 ∧ x8.1 ≤ 64 ∧ okI ((1 : Int) * 2 ^ x8.1.toNat)) <|
                  M.join (fun (k2 : Int) =>
                      M.call (extent_Fit l1 k2 x7.1 ((1 : Int) * 2 ^ x8.1.toNat)) fun x9 =>
                      M.call (r03_Fit l1 k2 x7.1 ((1 : Int) * 2 ^ x8.1.toNat)) fun x10 =>
                      M.bif (decide (x9.1 = x10.1))
                        (M.ret (decide (x9.2 = x10.2)))
                        (M.ret false)) fun k3 =>
                  M.call (draw_Next x8.2 6) fun x11 =>
                  M.bif (decide (x11.1 = 5))
                    (M.call (draw_Next x11.2 100) fun x12 =>
                     M.chk (okI ((2147483647 : Int) - x12.1)) <|
                     k3 ((2147483647 : Int) - x12.1))
                    (k3 x6.1)) fun k1 =>
              M.call (draw_Next x3.2 6) fun x13 =>
              M.bif (decide (x13.1 = 5))
                (M.call (draw_Next x13.2 80) fun x14 =>
                 M.chk (okI ((2147483647 : Int) - x14.1)) <|
                 M.call (draw_Next x14.2 80) fun x15 =>
                 M.chk (x3.1.length + ([(⟨((2147483647 : Int) - x14.1), x15.1⟩ : AInterval)] : List AInterval).length < 1000000000000) <|
                 k1 (x15.2, (x3.1 ++ ([(⟨((2147483647 : Int) - x14.1), x15.1⟩ : AInterval)] : List AInterval))))
                (k1 (x13.2, x3.1))))))
def extent_Overlap (a1 : AInterval) (b1 : AInterval) : M (Bool) :=
  M.call (extent_right a1) fun x1 =>
  M.bif x1
    (M.call (extent_right b1) fun x2 =>
     M.bif x2
       (M.call (extent_meet a1 b1) fun x3 =>
        M.ret x3)
       (M.ret false))
    (M.ret false)
def law03_ExtentFitIsLeast (codes1 : List Int) : M (Bool) :=
  M.call (law03_awake) fun x1 =>
  M.bif (!x1)
    (M.ret false)
    (M.call (draw_New codes1 60) fun x2 =>
     M.call (law03_used x2) fun x3 =>
     M.call (draw_Next x3.2 40) fun x4 =>
     M.call (draw_Next x4.2 16) fun x5 =>
     M.chk (okI ((1 : Int) + x5.1)) <|
     M.call (draw_Next x5.2 5) fun x6 =>
     M.chk ((0 : Int) ≤ x6.1 ∧ x6.1 ≤ 64 ∧ okI ((1 : Int) * 2 ^ x6.1.toNat)) <|
     M.call (extent_Fit x3.1 x4.1 ((1 : Int) + x5.1) ((1 : Int) * 2 ^ x6.1.toNat)) fun x7 =>
     M.bif (!decide (x7.2 = 0))
       (M.ret false)
       (M.bif (decide (x7.1 < x4.1))
          (M.ret false)
          (M.chk ((0 : Int) ≤ x7.1 ∧ (0 : Int) < ((1 : Int) * 2 ^ x6.1.toNat)) <|
           M.bif (!decide ((x7.1 % ((1 : Int) * 2 ^ x6.1.toNat)) = 0))
             (M.ret false)
             (M.loop (fun again1 (k1 : Int) =>
                  M.bif (decide (k1 ≤ x7.1))
                    (M.chk ((0 : Int) ≤ k1 ∧ (0 : Int) < ((1 : Int) * 2 ^ x6.1.toNat)) <|
                     M.loop (fun again2 ((free1, i1) : Bool × Int) =>
                         M.bif (decide (i1 < (x3.1.length : Int)))
                           (M.bif free1
                              (M.chk ((0 : Int) ≤ i1 ∧ i1 < (x3.1.length : Int)) <|
                               M.call (extent_Overlap (atD x3.1 i1) (⟨k1, ((1 : Int) + x5.1)⟩ : AInterval)) fun x8 =>
                               M.chk (okI (i1 + 1)) <|
                               again2 ((!x8), (i1 + 1)))
                              (M.chk (okI (i1 + 1)) <|
                               again2 (false, (i1 + 1))))
                           (M.bif (free1 != (decide (k1 = x7.1)))
                              (M.ret false)
                              (M.chk (okI (k1 + 1)) <|
                               again1 (k1 + 1)))) ((decide ((k1 % ((1 : Int) * 2 ^ x6.1.toNat)) = 0)), 0))
                    (M.ret true)) x4.1))))
end Go.Proofs.Ytcmiokobfkaldaa.Q
