/- The data of the program, and its functions as lifted texts (written by a program). -/
import Derived.Test.YthlpmklgokjdkaaPureB
import Derived.Shelf.SlSortCmp.Insertion
set_option linter.unusedVariables false
namespace Go.Proofs.Ythlpmklgokjdkaa.Q
/-- What the package bitset does (known by hand). -/
def in512 (n : Int) : Bool := decide (0 ≤ n ∧ n < 512)
def setOf (l : List Int) : List Int := ((List.range 512).filter fun k : Nat => decide ((k : Int) ∈ l)).map fun k : Nat => (k : Int)
/-- In order, all of them in range. -/
def ascS (l : List Int) : Bool := (List.range l.length).all fun j => in512 (l.getD j 0) && (decide (j = 0) || decide (l.getD (j - 1) 0 < l.getD j 0))
structure ASlot where
  Size : Int
  Align : Int
  deriving DecidableEq
instance : Inhabited ASlot := ⟨⟨0, 0⟩⟩
structure AInterval where
  Off : Int
  Size : Int
  deriving DecidableEq
instance : Inhabited AInterval := ⟨⟨0, 0⟩⟩
structure DCodes where
  list : List Int
  at_ : Int
  deriving DecidableEq
instance : Inhabited DCodes := ⟨⟨[], 0⟩⟩
/-- What slices.SortFunc makes of a row. -/
@[irreducible] def sort_extent_Fit_2 (l : List AInterval) : List AInterval := (Go.Sort.pdq (Go.Proofs.ltOf fun x y : AInterval => Go.Lib.compareInt x.Off y.Off) l.toArray 0 l.length (Go.Lib.bitLen l.length) true true).toList
def value_Size (n1 : Int) : M (Bool) :=
  M.bif (decide (1 ≤ n1))
    (M.bif (decide (n1 ≤ 16))
       (M.chk (okI (n1 - 1)) <|
        M.ret (decide ((Go.bits .and .i64 n1 (n1 - 1)) = 0)))
       (M.ret false))
    (M.ret false)
def extent_Power (n1 : Int) : M (Bool) :=
  M.bif (decide (1 ≤ n1))
    (M.bif (decide (n1 ≤ 16777216))
       (M.chk (okI (n1 - 1)) <|
        M.ret (decide ((Go.bits .and .i64 n1 (n1 - 1)) = 0)))
       (M.ret false))
    (M.ret false)
def extent_Slots_1 (x1 : ASlot) : M (Bool) :=
  M.call (value_Size x1.Size) fun x2 =>
  M.bif (!x2)
    (M.ret true)
    (M.call (extent_Power x1.Align) fun x3 =>
     M.ret (!x3))
def slices_IndexFunc___api_Slot_api_Slot__of_extent_Slots_1 (s1 : List ASlot) : M (Int) :=
  M.loop (fun again1 (x1 : Int) =>
      M.bif (decide (x1 < (s1.length : Int)))
        (M.chk ((0 : Int) ≤ x1 ∧ x1 < (s1.length : Int)) <|
         M.call (extent_Slots_1 (atD s1 x1)) fun x2 =>
         M.bif x2
           (M.ret x1)
           (M.chk (okI (x1 + 1)) <|
            again1 (x1 + 1)))
        (M.ret (-1))) 0
def slices_ContainsFunc___api_Slot_api_Slot__of_extent_Slots_1 (s1 : List ASlot) : M (Bool) :=
  M.call (slices_IndexFunc___api_Slot_api_Slot__of_extent_Slots_1 s1) fun x1 =>
  M.ret (decide (0 ≤ x1))
def extent_Slots (s1 : List ASlot) : M (Int) :=
  M.bif (decide (512 < (s1.length : Int)))
    (M.ret 3)
    (M.call (slices_ContainsFunc___api_Slot_api_Slot__of_extent_Slots_1 s1) fun x1 =>
     M.bif x1
       (M.ret 5)
       (M.ret 0))
def bitset_within_int_ (n1 : Int) : M (Bool) :=
  M.bif (decide (0 ≤ n1))
    (M.ret (decide (n1 < 512)))
    (M.ret false)
def bitset_Check (s1 : List Int) : M (Bool) :=
  M.loop (fun again1 (x1 : Int) =>
      M.bif (decide (x1 < (s1.length : Int)))
        (M.chk ((0 : Int) ≤ x1 ∧ x1 < (s1.length : Int)) <|
         M.call (bitset_within_int_ (atD s1 x1)) fun x2 =>
         M.bif (!x2)
           (M.ret false)
           (M.bif (decide (0 < x1))
              (M.chk (okI (x1 - 1)) <|
               M.chk ((0 : Int) ≤ (x1 - 1) ∧ (x1 - 1) < (s1.length : Int)) <|
               M.bif (decide ((atD s1 x1) ≤ (atD s1 (x1 - 1))))
                 (M.ret false)
                 (M.chk (okI (x1 + 1)) <|
                  again1 (x1 + 1)))
              (M.chk (okI (x1 + 1)) <|
               again1 (x1 + 1))))
        (M.ret true)) 0
def slices_Index___int_int_ (s1 : List Int) (v1 : Int) : M (Int) :=
  M.loop (fun again1 (x1 : Int) =>
      M.bif (decide (x1 < (s1.length : Int)))
        (M.chk ((0 : Int) ≤ x1 ∧ x1 < (s1.length : Int)) <|
         M.bif (decide (v1 = (atD s1 x1)))
           (M.ret x1)
           (M.chk (okI (x1 + 1)) <|
            again1 (x1 + 1)))
        (M.ret (-1))) 0
def slices_Contains___int_int_ (s1 : List Int) (v1 : Int) : M (Bool) :=
  M.call (slices_Index___int_int_ s1 v1) fun x1 =>
  M.ret (decide (0 ≤ x1))
def cmp_isNaN_int_ (x1 : Int) : M (Bool) :=
  M.ret (!decide (x1 = x1))
def cmp_Less_int_ (x1 : Int) (y1 : Int) : M (Bool) :=
  M.call (cmp_isNaN_int_ x1) fun x2 =>
  M.bif x2
    (M.call (cmp_isNaN_int_ y1) fun x3 =>
     M.bif (!x3)
       (M.ret true)
       (M.ret (decide (x1 < y1))))
    (M.ret (decide (x1 < y1)))
def slices_isNaN_int_ (x1 : Int) : M (Bool) :=
  M.ret (!decide (x1 = x1))
def slices_BinarySearch___int_int_ (x1 : List Int) (target1 : Int) : M (Int × Bool) :=
  M.loop (fun again1 ((i1, j1) : Int × Int) =>
      M.bif (decide (i1 < j1))
        (M.chk (okI (i1 + j1)) <|
         M.chk ((0 : Int) ≤ (i1 + j1) ∧ (i1 + j1) ≤ 18446744073709551615) <|
         M.chk ((0 : Int) ≤ 1 ∧ (1 : Int) ≤ 64) <|
         M.chk (okI ((i1 + j1) / 2 ^ (1 : Int).toNat)) <|
         M.chk ((0 : Int) ≤ ((i1 + j1) / 2 ^ (1 : Int).toNat) ∧ ((i1 + j1) / 2 ^ (1 : Int).toNat) < (x1.length : Int)) <|
         M.call (cmp_Less_int_ (atD x1 ((i1 + j1) / 2 ^ (1 : Int).toNat)) target1) fun x2 =>
         M.bif x2
           (M.chk (okI (((i1 + j1) / 2 ^ (1 : Int).toNat) + 1)) <|
            again1 ((((i1 + j1) / 2 ^ (1 : Int).toNat) + 1), j1))
           (again1 (i1, ((i1 + j1) / 2 ^ (1 : Int).toNat))))
        (M.bif (decide (i1 < (x1.length : Int)))
           (M.chk ((0 : Int) ≤ i1 ∧ i1 < (x1.length : Int)) <|
            M.bif (decide ((atD x1 i1) = target1))
              (M.ret (i1, true))
              (M.chk ((0 : Int) ≤ i1 ∧ i1 < (x1.length : Int)) <|
               M.call (slices_isNaN_int_ (atD x1 i1)) fun x3 =>
               M.bif x3
                 (M.call (slices_isNaN_int_ target1) fun x4 =>
                  M.ret (i1, x4))
                 (M.ret (i1, false))))
           (M.ret (i1, false)))) (0, (x1.length : Int))
def interfere_Check (g1 : List (List Int)) (n1 : Int) : M (Bool) :=
  M.bif (!decide ((g1.length : Int) = n1))
    (M.ret false)
    (M.loop (fun again1 (x1 : Int) =>
         M.bif (decide (x1 < (g1.length : Int)))
           (M.chk ((0 : Int) ≤ x1 ∧ x1 < (g1.length : Int)) <|
            M.call (bitset_Check (atD g1 x1)) fun x2 =>
            M.bif (!x2)
              (M.ret false)
              (M.bif (decide (0 < ((atD g1 x1).length : Int)))
                 (M.chk (okI (((atD g1 x1).length : Int) - 1)) <|
                  M.chk ((0 : Int) ≤ (((atD g1 x1).length : Int) - 1) ∧ (((atD g1 x1).length : Int) - 1) < ((atD g1 x1).length : Int)) <|
                  M.bif (decide (n1 ≤ (atD (atD g1 x1) (((atD g1 x1).length : Int) - 1))))
                    (M.ret false)
                    (M.call (slices_Contains___int_int_ (atD g1 x1) x1) fun x3 =>
                     M.bif x3
                       (M.ret false)
                       (M.chk (okI (x1 + 1)) <|
                        again1 (x1 + 1))))
                 (M.call (slices_Contains___int_int_ (atD g1 x1) x1) fun x4 =>
                  M.bif x4
                    (M.ret false)
                    (M.chk (okI (x1 + 1)) <|
                     again1 (x1 + 1)))))
           (M.loop (fun again2 (x5 : Int) =>
                M.bif (decide (x5 < (g1.length : Int)))
                  (M.chk ((0 : Int) ≤ x5 ∧ x5 < (g1.length : Int)) <|
                   M.loop (fun again3 (x6 : Int) =>
                       M.bif (decide (x6 < ((atD g1 x5).length : Int)))
                         (M.chk ((0 : Int) ≤ x6 ∧ x6 < ((atD g1 x5).length : Int)) <|
                          M.chk ((0 : Int) ≤ (atD (atD g1 x5) x6) ∧ (atD (atD g1 x5) x6) < (g1.length : Int)) <|
                          M.call (slices_BinarySearch___int_int_ (atD g1 (atD (atD g1 x5) x6)) x5) fun x7 =>
                          M.bif (!x7.2)
                            (M.ret false)
                            (M.chk (okI (x6 + 1)) <|
                             again3 (x6 + 1)))
                         (M.chk (okI (x5 + 1)) <|
                          again2 (x5 + 1))) 0)
                  (M.ret true)) 0)) 0)
def cmp_Compare_int_ (x1 : Int) (y1 : Int) : M (Int) :=
  M.call (cmp_isNaN_int_ x1) fun x2 =>
  M.call (cmp_isNaN_int_ y1) fun x3 =>
  M.bif x2
    (M.bif x3
       (M.ret 0)
       (M.ret (-1)))
    (M.bif x3
       (M.ret 1)
       (M.bif (decide (x1 < y1))
          (M.ret (-1))
          (M.bif (decide (y1 < x1))
             (M.ret 1)
             (M.ret 0))))
def cmp_Or_int_ (vals1 : List Int) : M (Int) :=
  M.loop (fun again1 (x1 : Int) =>
      M.bif (decide (x1 < (vals1.length : Int)))
        (M.chk ((0 : Int) ≤ x1 ∧ x1 < (vals1.length : Int)) <|
         M.bif (!decide ((atD vals1 x1) = 0))
           (M.ret (atD vals1 x1))
           (M.chk (okI (x1 + 1)) <|
            again1 (x1 + 1)))
        (M.ret 0)) 0
def colour_Order_1 (a1 : Int) (b1 : Int) (c1 : List ASlot) : M (Int × List ASlot) :=
  M.chk ((0 : Int) ≤ b1 ∧ b1 < (c1.length : Int)) <|
  M.chk ((0 : Int) ≤ a1 ∧ a1 < (c1.length : Int)) <|
  M.call (cmp_Compare_int_ ((atD c1 b1).Align) ((atD c1 a1).Align)) fun x1 =>
  M.chk ((0 : Int) ≤ b1 ∧ b1 < (c1.length : Int)) <|
  M.chk ((0 : Int) ≤ a1 ∧ a1 < (c1.length : Int)) <|
  M.call (cmp_Compare_int_ ((atD c1 b1).Size) ((atD c1 a1).Size)) fun x2 =>
  M.call (cmp_Or_int_ ([x1, x2] : List Int)) fun x3 =>
  M.ret (x3, c1)
def slices_insertionSortCmpFunc_int__of_colour_Order_1 (data1 : List Int) (a1 : Int) (b1 : Int) (cmp1 : List ASlot) : M (List Int × List ASlot) :=
  M.chk (okI (a1 + 1)) <|
  M.loop (fun again1 ((i1, data2, cmp2) : Int × List Int × List ASlot) =>
      M.bif (decide (i1 < b1))
        (M.loop (fun again2 ((j1, data3, cmp3) : Int × List Int × List ASlot) =>
             M.bif (decide (a1 < j1))
               (M.chk ((0 : Int) ≤ j1 ∧ j1 < (data3.length : Int)) <|
                M.chk (okI (j1 - 1)) <|
                M.chk ((0 : Int) ≤ (j1 - 1) ∧ (j1 - 1) < (data3.length : Int)) <|
                M.call (colour_Order_1 (atD data3 j1) (atD data3 (j1 - 1)) cmp3) fun x1 =>
                M.bif (decide (x1.1 < 0))
                  (M.chk (okI (j1 - 1)) <|
                   M.chk (okI (j1 - 1)) <|
                   M.chk ((0 : Int) ≤ (j1 - 1) ∧ (j1 - 1) < (data3.length : Int)) <|
                   M.chk ((0 : Int) ≤ j1 ∧ j1 < (data3.length : Int)) <|
                   M.chk ((0 : Int) ≤ j1 ∧ j1 < (data3.length : Int)) <|
                   M.chk ((0 : Int) ≤ (j1 - 1) ∧ (j1 - 1) < ((setD data3 j1 (atD data3 (j1 - 1))).length : Int)) <|
                   M.chk (okI (j1 - 1)) <|
                   again2 ((j1 - 1), (setD (setD data3 j1 (atD data3 (j1 - 1))) (j1 - 1) (atD data3 j1)), x1.2))
                  (M.chk (okI (i1 + 1)) <|
                   again1 ((i1 + 1), data3, x1.2)))
               (M.chk (okI (i1 + 1)) <|
                again1 ((i1 + 1), data3, cmp3))) (i1, data2, cmp2))
        (M.ret (data2, cmp2))) ((a1 + 1), data1, cmp1)
def slices_swapRangeCmpFunc_int__of_colour_Order_1 (data1 : List Int) (a1 : Int) (b1 : Int) (n1 : Int) (cmp1 : List ASlot) : M (List Int × List ASlot) :=
  M.loop (fun again1 ((i1, data2) : Int × List Int) =>
      M.bif (decide (i1 < n1))
        (M.chk (okI (a1 + i1)) <|
         M.chk (okI (b1 + i1)) <|
         M.chk (okI (b1 + i1)) <|
         M.chk ((0 : Int) ≤ (b1 + i1) ∧ (b1 + i1) < (data2.length : Int)) <|
         M.chk (okI (a1 + i1)) <|
         M.chk ((0 : Int) ≤ (a1 + i1) ∧ (a1 + i1) < (data2.length : Int)) <|
         M.chk ((0 : Int) ≤ (a1 + i1) ∧ (a1 + i1) < (data2.length : Int)) <|
         M.chk ((0 : Int) ≤ (b1 + i1) ∧ (b1 + i1) < ((setD data2 (a1 + i1) (atD data2 (b1 + i1))).length : Int)) <|
         M.chk (okI (i1 + 1)) <|
         again1 ((i1 + 1), (setD (setD data2 (a1 + i1) (atD data2 (b1 + i1))) (b1 + i1) (atD data2 (a1 + i1)))))
        (M.ret (data2, cmp1))) (0, data1)
def slices_rotateCmpFunc_int__of_colour_Order_1 (data1 : List Int) (a1 : Int) (m1 : Int) (b1 : Int) (cmp1 : List ASlot) : M (List Int × List ASlot) :=
  M.chk (okI (m1 - a1)) <|
  M.chk (okI (b1 - m1)) <|
  M.loop (fun again1 ((i1, j1, data2, cmp2) : Int × Int × List Int × List ASlot) =>
      M.bif (!decide (i1 = j1))
        (M.bif (decide (j1 < i1))
           (M.chk (okI (m1 - i1)) <|
            M.call (slices_swapRangeCmpFunc_int__of_colour_Order_1 data2 (m1 - i1) m1 j1 cmp2) fun x1 =>
            M.chk (okI (i1 - j1)) <|
            again1 ((i1 - j1), j1, x1.1, x1.2))
           (M.chk (okI (m1 - i1)) <|
            M.chk (okI (m1 + j1)) <|
            M.chk (okI ((m1 + j1) - i1)) <|
            M.call (slices_swapRangeCmpFunc_int__of_colour_Order_1 data2 (m1 - i1) ((m1 + j1) - i1) i1 cmp2) fun x2 =>
            M.chk (okI (j1 - i1)) <|
            again1 (i1, (j1 - i1), x2.1, x2.2)))
        (M.chk (okI (m1 - i1)) <|
         M.call (slices_swapRangeCmpFunc_int__of_colour_Order_1 data2 (m1 - i1) m1 i1 cmp2) fun x3 =>
         M.ret (x3.1, x3.2))) ((m1 - a1), (b1 - m1), data1, cmp1)
def slices_symMergeCmpFunc_int__of_colour_Order_1_body (self : (List Int) → Int → Int → Int → (List ASlot) → M (List Int × List ASlot)) (data1 : List Int) (a1 : Int) (m1 : Int) (b1 : Int) (cmp1 : List ASlot) : M (List Int × List ASlot) :=
  M.chk (okI (m1 - a1)) <|
  M.bif (decide ((m1 - a1) = 1))
    (M.loop (fun again1 ((i1, j1, cmp2) : Int × Int × List ASlot) =>
         M.bif (decide (i1 < j1))
           (M.chk (okI (i1 + j1)) <|
            M.chk ((0 : Int) ≤ (i1 + j1) ∧ (i1 + j1) ≤ 18446744073709551615) <|
            M.chk ((0 : Int) ≤ 1 ∧ (1 : Int) ≤ 64) <|
            M.chk (okI ((i1 + j1) / 2 ^ (1 : Int).toNat)) <|
            M.chk ((0 : Int) ≤ ((i1 + j1) / 2 ^ (1 : Int).toNat) ∧ ((i1 + j1) / 2 ^ (1 : Int).toNat) < (data1.length : Int)) <|
            M.chk ((0 : Int) ≤ a1 ∧ a1 < (data1.length : Int)) <|
            M.call (colour_Order_1 (atD data1 ((i1 + j1) / 2 ^ (1 : Int).toNat)) (atD data1 a1) cmp2) fun x1 =>
            M.bif (decide (x1.1 < 0))
              (M.chk (okI (((i1 + j1) / 2 ^ (1 : Int).toNat) + 1)) <|
               again1 ((((i1 + j1) / 2 ^ (1 : Int).toNat) + 1), j1, x1.2))
              (again1 (i1, ((i1 + j1) / 2 ^ (1 : Int).toNat), x1.2)))
           (M.loop (fun again2 ((k1, data2) : Int × List Int) =>
                M.chk (okI (i1 - 1)) <|
                M.bif (decide (k1 < (i1 - 1)))
                  (M.chk (okI (k1 + 1)) <|
                   M.chk (okI (k1 + 1)) <|
                   M.chk ((0 : Int) ≤ (k1 + 1) ∧ (k1 + 1) < (data2.length : Int)) <|
                   M.chk ((0 : Int) ≤ k1 ∧ k1 < (data2.length : Int)) <|
                   M.chk ((0 : Int) ≤ k1 ∧ k1 < (data2.length : Int)) <|
                   M.chk ((0 : Int) ≤ (k1 + 1) ∧ (k1 + 1) < ((setD data2 k1 (atD data2 (k1 + 1))).length : Int)) <|
                   M.chk (okI (k1 + 1)) <|
                   again2 ((k1 + 1), (setD (setD data2 k1 (atD data2 (k1 + 1))) (k1 + 1) (atD data2 k1))))
                  (M.ret (data2, cmp2))) (a1, data1))) (m1, b1, cmp1))
    (M.chk (okI (b1 - m1)) <|
     M.bif (decide ((b1 - m1) = 1))
       (M.loop (fun again3 ((i2, j2, cmp3) : Int × Int × List ASlot) =>
            M.bif (decide (i2 < j2))
              (M.chk (okI (i2 + j2)) <|
               M.chk ((0 : Int) ≤ (i2 + j2) ∧ (i2 + j2) ≤ 18446744073709551615) <|
               M.chk ((0 : Int) ≤ 1 ∧ (1 : Int) ≤ 64) <|
               M.chk (okI ((i2 + j2) / 2 ^ (1 : Int).toNat)) <|
               M.chk ((0 : Int) ≤ m1 ∧ m1 < (data1.length : Int)) <|
               M.chk ((0 : Int) ≤ ((i2 + j2) / 2 ^ (1 : Int).toNat) ∧ ((i2 + j2) / 2 ^ (1 : Int).toNat) < (data1.length : Int)) <|
               M.call (colour_Order_1 (atD data1 m1) (atD data1 ((i2 + j2) / 2 ^ (1 : Int).toNat)) cmp3) fun x2 =>
               M.bif (!(decide (x2.1 < 0)))
                 (M.chk (okI (((i2 + j2) / 2 ^ (1 : Int).toNat) + 1)) <|
                  again3 ((((i2 + j2) / 2 ^ (1 : Int).toNat) + 1), j2, x2.2))
                 (again3 (i2, ((i2 + j2) / 2 ^ (1 : Int).toNat), x2.2)))
              (M.loop (fun again4 ((k2, data3) : Int × List Int) =>
                   M.bif (decide (i2 < k2))
                     (M.chk (okI (k2 - 1)) <|
                      M.chk (okI (k2 - 1)) <|
                      M.chk ((0 : Int) ≤ (k2 - 1) ∧ (k2 - 1) < (data3.length : Int)) <|
                      M.chk ((0 : Int) ≤ k2 ∧ k2 < (data3.length : Int)) <|
                      M.chk ((0 : Int) ≤ k2 ∧ k2 < (data3.length : Int)) <|
                      M.chk ((0 : Int) ≤ (k2 - 1) ∧ (k2 - 1) < ((setD data3 k2 (atD data3 (k2 - 1))).length : Int)) <|
                      M.chk (okI (k2 - 1)) <|
                      again4 ((k2 - 1), (setD (setD data3 k2 (atD data3 (k2 - 1))) (k2 - 1) (atD data3 k2))))
                     (M.ret (data3, cmp3))) (m1, data1))) (a1, m1, cmp1))
       (M.chk (okI (a1 + b1)) <|
        M.chk ((0 : Int) ≤ (a1 + b1) ∧ (a1 + b1) ≤ 18446744073709551615) <|
        M.chk ((0 : Int) ≤ 1 ∧ (1 : Int) ≤ 64) <|
        M.chk (okI ((a1 + b1) / 2 ^ (1 : Int).toNat)) <|
        M.chk (okI (((a1 + b1) / 2 ^ (1 : Int).toNat) + m1)) <|
        M.join (fun ((start1, r1) : Int × Int) =>
            M.chk (okI ((((a1 + b1) / 2 ^ (1 : Int).toNat) + m1) - 1)) <|
            M.loop (fun again5 ((start2, r2, cmp4) : Int × Int × List ASlot) =>
                M.bif (decide (start2 < r2))
                  (M.chk (okI (start2 + r2)) <|
                   M.chk ((0 : Int) ≤ (start2 + r2) ∧ (start2 + r2) ≤ 18446744073709551615) <|
                   M.chk ((0 : Int) ≤ 1 ∧ (1 : Int) ≤ 64) <|
                   M.chk (okI ((start2 + r2) / 2 ^ (1 : Int).toNat)) <|
                   M.chk (okI (((((a1 + b1) / 2 ^ (1 : Int).toNat) + m1) - 1) - ((start2 + r2) / 2 ^ (1 : Int).toNat))) <|
                   M.chk ((0 : Int) ≤ (((((a1 + b1) / 2 ^ (1 : Int).toNat) + m1) - 1) - ((start2 + r2) / 2 ^ (1 : Int).toNat)) ∧ (((((a1 + b1) / 2 ^ (1 : Int).toNat) + m1) - 1) - ((start2 + r2) / 2 ^ (1 : Int).toNat)) < (data1.length : Int)) <|
                   M.chk ((0 : Int) ≤ ((start2 + r2) / 2 ^ (1 : Int).toNat) ∧ ((start2 + r2) / 2 ^ (1 : Int).toNat) < (data1.length : Int)) <|
                   M.call (colour_Order_1 (atD data1 (((((a1 + b1) / 2 ^ (1 : Int).toNat) + m1) - 1) - ((start2 + r2) / 2 ^ (1 : Int).toNat))) (atD data1 ((start2 + r2) / 2 ^ (1 : Int).toNat)) cmp4) fun x3 =>
                   M.bif (!(decide (x3.1 < 0)))
                     (M.chk (okI (((start2 + r2) / 2 ^ (1 : Int).toNat) + 1)) <|
                      again5 ((((start2 + r2) / 2 ^ (1 : Int).toNat) + 1), r2, x3.2))
                     (again5 (start2, ((start2 + r2) / 2 ^ (1 : Int).toNat), x3.2)))
                  (M.chk (okI ((((a1 + b1) / 2 ^ (1 : Int).toNat) + m1) - start2)) <|
                   M.join (fun ((data4, cmp5) : List Int × List ASlot) =>
                       M.join (fun ((data5, cmp6) : List Int × List ASlot) =>
                           M.bif (decide (((a1 + b1) / 2 ^ (1 : Int).toNat) < ((((a1 + b1) / 2 ^ (1 : Int).toNat) + m1) - start2)))
                             (M.bif (decide (((((a1 + b1) / 2 ^ (1 : Int).toNat) + m1) - start2) < b1))
                                (M.call (self data5 ((a1 + b1) / 2 ^ (1 : Int).toNat) ((((a1 + b1) / 2 ^ (1 : Int).toNat) + m1) - start2) b1 cmp6) fun x4 =>
                                 M.ret (x4.1, x4.2))
                                (M.ret (data5, cmp6)))
                             (M.ret (data5, cmp6))) fun k5 =>
                       M.bif (decide (a1 < start2))
                         (M.bif (decide (start2 < ((a1 + b1) / 2 ^ (1 : Int).toNat)))
                            (M.call (self data4 a1 start2 ((a1 + b1) / 2 ^ (1 : Int).toNat) cmp5) fun x5 =>
                             k5 (x5.1, x5.2))
                            (k5 (data4, cmp5)))
                         (k5 (data4, cmp5))) fun k4 =>
                   M.bif (decide (start2 < m1))
                     (M.bif (decide (m1 < ((((a1 + b1) / 2 ^ (1 : Int).toNat) + m1) - start2)))
                        (M.call (slices_rotateCmpFunc_int__of_colour_Order_1 data1 start2 m1 ((((a1 + b1) / 2 ^ (1 : Int).toNat) + m1) - start2) cmp4) fun x6 =>
                         k4 (x6.1, x6.2))
                        (k4 (data1, cmp4)))
                     (k4 (data1, cmp4)))) (start1, r1, cmp1)) fun k3 =>
        M.bif (decide (((a1 + b1) / 2 ^ (1 : Int).toNat) < m1))
          (M.chk (okI ((((a1 + b1) / 2 ^ (1 : Int).toNat) + m1) - b1)) <|
           k3 (((((a1 + b1) / 2 ^ (1 : Int).toNat) + m1) - b1), ((a1 + b1) / 2 ^ (1 : Int).toNat)))
          (k3 (a1, m1))))
def slices_symMergeCmpFunc_int__of_colour_Order_1_at : Nat → (List Int) → Int → Int → Int → (List ASlot) → M (List Int × List ASlot)
  | 0 => fun _ _ _ _ _ => M.none
  | depth + 1 => slices_symMergeCmpFunc_int__of_colour_Order_1_body (slices_symMergeCmpFunc_int__of_colour_Order_1_at depth)
def slices_symMergeCmpFunc_int__of_colour_Order_1 (data1 : List Int) (a1 : Int) (m1 : Int) (b1 : Int) (cmp1 : List ASlot) : M (List Int × List ASlot) := M.fix fun depth => slices_symMergeCmpFunc_int__of_colour_Order_1_at depth data1 a1 m1 b1 cmp1
def slices_stableCmpFunc_int__of_colour_Order_1 (data1 : List Int) (n1 : Int) (cmp1 : List ASlot) : M (List Int × List ASlot) :=
  M.loop (fun again1 ((a1, b1, data2, cmp2) : Int × Int × List Int × List ASlot) =>
      M.bif (decide (b1 ≤ n1))
        (M.call (slices_insertionSortCmpFunc_int__of_colour_Order_1 data2 a1 b1 cmp2) fun x1 =>
         M.chk (okI (b1 + 20)) <|
         again1 (b1, (b1 + 20), x1.1, x1.2))
        (M.call (slices_insertionSortCmpFunc_int__of_colour_Order_1 data2 a1 n1 cmp2) fun x2 =>
         M.loop (fun again2 ((blockSize1, data3, cmp3) : Int × List Int × List ASlot) =>
             M.bif (decide (blockSize1 < n1))
               (M.chk (okI ((2 : Int) * blockSize1)) <|
                M.loop (fun again3 ((a2, b2, data4, cmp4) : Int × Int × List Int × List ASlot) =>
                    M.bif (decide (b2 ≤ n1))
                      (M.chk (okI (a2 + blockSize1)) <|
                       M.call (slices_symMergeCmpFunc_int__of_colour_Order_1 data4 a2 (a2 + blockSize1) b2 cmp4) fun x3 =>
                       M.chk (okI ((2 : Int) * blockSize1)) <|
                       M.chk (okI (b2 + ((2 : Int) * blockSize1))) <|
                       again3 (b2, (b2 + ((2 : Int) * blockSize1)), x3.1, x3.2))
                      (M.chk (okI (a2 + blockSize1)) <|
                       M.bif (decide ((a2 + blockSize1) < n1))
                         (M.call (slices_symMergeCmpFunc_int__of_colour_Order_1 data4 a2 (a2 + blockSize1) n1 cmp4) fun x4 =>
                          M.chk (okI (blockSize1 * 2)) <|
                          again2 ((blockSize1 * 2), x4.1, x4.2))
                         (M.chk (okI (blockSize1 * 2)) <|
                          again2 ((blockSize1 * 2), data4, cmp4)))) (0, ((2 : Int) * blockSize1), data3, cmp3))
               (M.ret (data3, cmp3))) (20, x2.1, x2.2))) (0, 20, data1, cmp1)
def slices_SortStableFunc___int_int__of_colour_Order_1 (x1 : List Int) (cmp1 : List ASlot) : M (List Int × List ASlot) :=
  M.call (slices_stableCmpFunc_int__of_colour_Order_1 x1 (x1.length : Int) cmp1) fun x2 =>
  M.ret (x2.1, x2.2)
def colour_Order (s1 : List ASlot) : M (List Int) :=
  M.loop (fun again1 ((x1, l1) : Int × List Int) =>
      M.bif (decide (x1 < (s1.length : Int)))
        (M.chk (l1.length + ([x1] : List Int).length < 1000000000000) <|
         M.chk (okI (x1 + 1)) <|
         again1 ((x1 + 1), (l1 ++ ([x1] : List Int))))
        (M.call (slices_SortStableFunc___int_int__of_colour_Order_1 l1 s1) fun x2 =>
         M.ret x2.1)) (0, ([] : List Int))
def colour_interval (s1 : List ASlot) (off1 : List Int) (i1 : Int) : M (AInterval) :=
  M.chk ((0 : Int) ≤ i1 ∧ i1 < (off1.length : Int)) <|
  M.chk ((0 : Int) ≤ i1 ∧ i1 < (s1.length : Int)) <|
  M.ret (⟨(atD off1 i1), (atD s1 i1).Size⟩ : AInterval)
def extent_bound (n1 : Int) : M (Bool) :=
  M.bif (decide (0 ≤ n1))
    (M.ret (decide (n1 ≤ 2147483647)))
    (M.ret false)
def extent_right (a1 : AInterval) : M (Bool) :=
  M.call (extent_bound a1.Off) fun x1 =>
  M.bif x1
    (M.call (extent_bound a1.Size) fun x2 =>
     M.bif x2
       (M.chk (okI (a1.Off + a1.Size)) <|
        M.ret (decide ((a1.Off + a1.Size) ≤ 2147483647)))
       (M.ret false))
    (M.ret false)
def extent_Fit_1 (a1 : AInterval) : M (Bool) :=
  M.call (extent_right a1) fun x1 =>
  M.ret (!x1)
def slices_Clone___api_Interval_api_Interval_ (s1 : List AInterval) : M (List AInterval) :=
  M.both (s1 = [])
    (M.ret ([] : List AInterval))
    (M.chk (([] : List AInterval).length + s1.length < 1000000000000) <|
     M.ret (([] : List AInterval) ++ s1))
def extent_up (n1 : Int) (align1 : Int) : M (Int) :=
  M.chk (okI (n1 + align1)) <|
  M.chk (okI ((n1 + align1) - 1)) <|
  M.chk (okI (align1 - 1)) <|
  M.ret (Go.bits .andNot .i64 ((n1 + align1) - 1) (align1 - 1))
def extent_meet (a1 : AInterval) (b1 : AInterval) : M (Bool) :=
  M.chk (okI (a1.Off + a1.Size)) <|
  M.chk (okI (b1.Off + b1.Size)) <|
  M.ret (decide ((max a1.Off b1.Off) < (min (a1.Off + a1.Size) (b1.Off + b1.Size))))
def slices_IndexFunc___api_Interval_api_Interval__of_extent_Fit_1 (s1 : List AInterval) : M (Int) :=
  M.loop (fun again1 (x1 : Int) =>
      M.bif (decide (x1 < (s1.length : Int)))
        (M.chk ((0 : Int) ≤ x1 ∧ x1 < (s1.length : Int)) <|
         M.call (extent_Fit_1 (atD s1 x1)) fun x2 =>
         M.bif x2
           (M.ret x1)
           (M.chk (okI (x1 + 1)) <|
            again1 (x1 + 1)))
        (M.ret (-1))) 0
def slices_ContainsFunc___api_Interval_api_Interval__of_extent_Fit_1 (s1 : List AInterval) : M (Bool) :=
  M.call (slices_IndexFunc___api_Interval_api_Interval__of_extent_Fit_1 s1) fun x1 =>
  M.ret (decide (0 ≤ x1))
def extent_Fit (used1 : List AInterval) (from1 : Int) (size1 : Int) (align1 : Int) : M (Int × Int) :=
  M.call (extent_bound from1) fun x1 =>
  M.bif (!x1)
    (M.ret (0, 4))
    (M.call (extent_bound size1) fun x2 =>
     M.bif (!x2)
       (M.ret (0, 4))
       (M.call (extent_Power align1) fun x3 =>
        M.bif (!x3)
          (M.ret (0, 4))
          (M.call (slices_ContainsFunc___api_Interval_api_Interval__of_extent_Fit_1 used1) fun x4 =>
           M.bif x4
             (M.ret (0, 4))
             (M.call (slices_Clone___api_Interval_api_Interval_ used1) fun x5 =>
              M.chk (x5.length < 4611686018427387904) <|
              M.call (extent_up from1 align1) fun x6 =>
              M.loop (fun again1 ((at1, x7) : Int × Int) =>
                  M.bif (decide (x7 < ((sort_extent_Fit_2 x5).length : Int)))
                    (M.chk ((0 : Int) ≤ x7 ∧ x7 < ((sort_extent_Fit_2 x5).length : Int)) <|
                     M.call (extent_meet (atD (sort_extent_Fit_2 x5) x7) (⟨at1, size1⟩ : AInterval)) fun x8 =>
                     M.bif x8
                       (M.chk (okI (((atD (sort_extent_Fit_2 x5) x7).Off) + ((atD (sort_extent_Fit_2 x5) x7).Size))) <|
                        M.call (extent_up (((atD (sort_extent_Fit_2 x5) x7).Off) + ((atD (sort_extent_Fit_2 x5) x7).Size)) align1) fun x9 =>
                        M.chk (okI (x7 + 1)) <|
                        again1 (x9, (x7 + 1)))
                       (M.chk (okI (x7 + 1)) <|
                        again1 (at1, (x7 + 1))))
                    (M.chk (okI (at1 + size1)) <|
                     M.bif (decide (2147483647 < (at1 + size1)))
                       (M.ret (0, 9))
                       (M.ret (at1, 0)))) (x6, 0)))))
def colour_Assign (s1 : List ASlot) (g1 : List (List Int)) (from1 : Int) : M (List Int × Int) :=
  M.call (extent_Slots s1) fun x1 =>
  M.bif (!decide (x1 = 0))
    (M.ret (([] : List Int), x1))
    (M.call (interfere_Check g1 (s1.length : Int)) fun x2 =>
     M.bif (!x2)
       (M.ret (([] : List Int), 4))
       (M.bif (decide (from1 < 0))
          (M.ret (([] : List Int), 4))
          (M.bif (decide (2147483647 < from1))
             (M.ret (([] : List Int), 4))
             (M.chk ((0 : Int) ≤ (s1.length : Int) ∧ (s1.length : Int) < 1000000000000) <|
              M.chk ((0 : Int) ≤ (s1.length : Int) ∧ (s1.length : Int) < 1000000000000) <|
              M.call (colour_Order s1) fun x3 =>
              M.loop (fun again1 ((x4, off1, done1) : Int × List Int × List Bool) =>
                  M.bif (decide (x4 < (x3.length : Int)))
                    (M.chk ((0 : Int) ≤ x4 ∧ x4 < (x3.length : Int)) <|
                     M.chk ((0 : Int) ≤ (atD x3 x4) ∧ (atD x3 x4) < (g1.length : Int)) <|
                     M.loop (fun again2 ((x5, used1) : Int × List AInterval) =>
                         M.bif (decide (x5 < ((atD g1 (atD x3 x4)).length : Int)))
                           (M.chk ((0 : Int) ≤ x5 ∧ x5 < ((atD g1 (atD x3 x4)).length : Int)) <|
                            M.chk ((0 : Int) ≤ (atD (atD g1 (atD x3 x4)) x5) ∧ (atD (atD g1 (atD x3 x4)) x5) < (done1.length : Int)) <|
                            M.bif (atD done1 (atD (atD g1 (atD x3 x4)) x5))
                              (M.call (colour_interval s1 off1 (atD (atD g1 (atD x3 x4)) x5)) fun x6 =>
                               M.chk (used1.length + ([x6] : List AInterval).length < 1000000000000) <|
                               M.chk (okI (x5 + 1)) <|
                               again2 ((x5 + 1), (used1 ++ ([x6] : List AInterval))))
                              (M.chk (okI (x5 + 1)) <|
                               again2 ((x5 + 1), used1)))
                           (M.chk ((0 : Int) ≤ (atD x3 x4) ∧ (atD x3 x4) < (s1.length : Int)) <|
                            M.chk ((0 : Int) ≤ (atD x3 x4) ∧ (atD x3 x4) < (s1.length : Int)) <|
                            M.call (extent_Fit used1 from1 ((atD s1 (atD x3 x4)).Size) ((atD s1 (atD x3 x4)).Align)) fun x7 =>
                            M.bif (!decide (x7.2 = 0))
                              (M.ret (([] : List Int), x7.2))
                              (M.chk ((0 : Int) ≤ (atD x3 x4) ∧ (atD x3 x4) < (off1.length : Int)) <|
                               M.chk ((0 : Int) ≤ (atD x3 x4) ∧ (atD x3 x4) < (done1.length : Int)) <|
                               M.chk (okI (x4 + 1)) <|
                               again1 ((x4 + 1), (setD off1 (atD x3 x4) x7.1), (setD done1 (atD x3 x4) true))))) (0, ([] : List AInterval)))
                    (M.ret (off1, 0))) (0, (repD (s1.length : Int) : List Int), (repD (s1.length : Int) : List Bool))))))
def law23_awake  : M (Bool) :=
  M.call (colour_Assign ([(⟨8, 8⟩ : ASlot), (⟨8, 8⟩ : ASlot)] : List ASlot) ([([1] : List Int), ([0] : List Int)] : List (List Int)) 0) fun x1 =>
  M.bif (decide (x1.2 = 0))
    (M.bif (decide ((x1.1.length : Int) = 2))
       (M.chk ((0 : Int) ≤ 1 ∧ 1 < (x1.1.length : Int)) <|
        M.ret (decide ((atD x1.1 1) = 8)))
       (M.ret false))
    (M.ret false)
def draw_New (list1 : List Int) (limit1 : Int) : M (DCodes) :=
  M.chk ((0 : Int) ≤ 0 ∧ 0 ≤ (min (list1.length : Int) limit1) ∧ (min (list1.length : Int) limit1) ≤ (list1.length : Int)) <|
  M.ret (⟨(sliceD list1 0 (min (list1.length : Int) limit1)), 0⟩ : DCodes)
def draw_Left (c1 : DCodes) : M (Bool × DCodes) :=
  M.ret ((decide (c1.at_ < (c1.list.length : Int))), c1)
def draw_Next (c1 : DCodes) (n1 : Int) : M (Int × DCodes) :=
  M.call (draw_Left c1) fun x1 =>
  M.bif (!x1.1)
    (M.ret (0, x1.2))
    (M.bif (decide (n1 < 1))
       (M.ret (0, x1.2))
       (M.chk ((0 : Int) ≤ x1.2.at_ ∧ x1.2.at_ < (x1.2.list.length : Int)) <|
        M.chk (okI (atD x1.2.list x1.2.at_)) <|
        M.chk (okI (x1.2.at_ + 1)) <|
        M.chk (okI ((atD x1.2.list x1.2.at_) * n1)) <|
        M.chk ((0 : Int) ≤ ((atD x1.2.list x1.2.at_) * n1) ∧ (0 : Int) < 256 ∧ ((atD x1.2.list x1.2.at_) * n1) ≤ 9223372036854775807) <|
        M.ret ((((atD x1.2.list x1.2.at_) * n1) / 256), (⟨x1.2.list, (x1.2.at_ + 1)⟩ : DCodes))))
def draw_Slot (c1 : DCodes) : M (ASlot × DCodes) :=
  M.call (draw_Next c1 7) fun x1 =>
  M.chk ((0 : Int) ≤ x1.1 ∧ x1.1 < (([8, 4, 8, 1, 2, 16, 8] : List Int).length : Int)) <|
  M.call (draw_Next x1.2 8) fun x2 =>
  M.chk ((0 : Int) ≤ x2.1 ∧ x2.1 < (([8, 4, 1, 8, 16, 2, 32, 64] : List Int).length : Int)) <|
  M.ret ((⟨(atD ([8, 4, 8, 1, 2, 16, 8] : List Int) x1.1), (atD ([8, 4, 1, 8, 16, 2, 32, 64] : List Int) x2.1)⟩ : ASlot), x2.2)
def draw_Slots (c1 : DCodes) (most1 : Int) : M (List ASlot × DCodes) :=
  M.chk (okI (most1 + 1)) <|
  M.call (draw_Next c1 (most1 + 1)) fun x1 =>
  M.loop (fun again1 ((n1, c2, l1) : Int × DCodes × List ASlot) =>
      M.bif (decide (0 < n1))
        (M.call (draw_Slot c2) fun x2 =>
         M.chk (l1.length + ([x2.1] : List ASlot).length < 1000000000000) <|
         M.chk (okI (n1 - 1)) <|
         again1 ((n1 - 1), x2.2, (l1 ++ ([x2.1] : List ASlot))))
        (M.ret (l1, c2))) (x1.1, x1.2, ([] : List ASlot))
def r04_good (n1 : Int) : M (Bool) :=
  M.bif (decide (0 ≤ n1))
    (M.ret (decide (n1 < 512)))
    (M.ret false)
def r04_Add (s1 : List Int) (n1 : Int) : M (List Int) :=
  M.call (r04_good n1) fun x1 =>
  M.loop (fun again1 ((done1, i1, out1) : Bool × Int × List Int) =>
      M.bif (decide (i1 < (s1.length : Int)))
        (M.join (fun ((done2, out2) : Bool × List Int) =>
             M.chk ((0 : Int) ≤ i1 ∧ i1 < (s1.length : Int)) <|
             M.chk (out2.length + ([(atD s1 i1)] : List Int).length < 1000000000000) <|
             M.chk (okI (i1 + 1)) <|
             again1 (done2, (i1 + 1), (out2 ++ ([(atD s1 i1)] : List Int)))) fun k1 =>
         M.bif (!done1)
           (M.chk ((0 : Int) ≤ i1 ∧ i1 < (s1.length : Int)) <|
            M.bif (decide (n1 ≤ (atD s1 i1)))
              (M.chk ((0 : Int) ≤ i1 ∧ i1 < (s1.length : Int)) <|
               M.bif (decide (n1 < (atD s1 i1)))
                 (M.chk (out1.length + ([n1] : List Int).length < 1000000000000) <|
                  k1 (true, (out1 ++ ([n1] : List Int))))
                 (k1 (true, out1)))
              (k1 (done1, out1)))
           (k1 (done1, out1)))
        (M.bif (!done1)
           (M.chk (out1.length + ([n1] : List Int).length < 1000000000000) <|
            M.ret (out1 ++ ([n1] : List Int)))
           (M.ret out1))) ((!x1), 0, ([] : List Int))
def law23_scene (codes1 : List Int) : M (List ASlot × List (List Int) × DCodes) :=
  M.call (draw_New codes1 200) fun x1 =>
  M.call (draw_Slots x1 9) fun x2 =>
  M.chk ((0 : Int) ≤ (x2.1.length : Int) ∧ (x2.1.length : Int) < 1000000000000) <|
  M.call (draw_Next x2.2 20) fun x3 =>
  M.loop (fun again1 ((n1, c1, g1) : Int × DCodes × List (List Int)) =>
      M.bif (decide (0 < n1))
        (M.bif (decide (1 < (x2.1.length : Int)))
           (M.call (draw_Next c1 (x2.1.length : Int)) fun x4 =>
            M.call (draw_Next x4.2 (x2.1.length : Int)) fun x5 =>
            M.bif (!decide (x4.1 = x5.1))
              (M.chk ((0 : Int) ≤ x4.1 ∧ x4.1 < (g1.length : Int)) <|
               M.call (r04_Add (atD g1 x4.1) x5.1) fun x6 =>
               M.chk ((0 : Int) ≤ x5.1 ∧ x5.1 < (g1.length : Int)) <|
               M.call (r04_Add (atD g1 x5.1) x4.1) fun x7 =>
               M.chk ((0 : Int) ≤ x4.1 ∧ x4.1 < (g1.length : Int)) <|
               M.chk ((0 : Int) ≤ x5.1 ∧ x5.1 < ((setD g1 x4.1 x6).length : Int)) <|
               M.chk (okI (n1 - 1)) <|
               again1 ((n1 - 1), x5.2, (setD (setD g1 x4.1 x6) x5.1 x7)))
              (M.chk (okI (n1 - 1)) <|
               again1 ((n1 - 1), x5.2, g1)))
           (M.ret (x2.1, g1, c1)))
        (M.ret (x2.1, g1, c1))) (x3.1, x3.2, (repD (x2.1.length : Int) : List (List Int)))
def r23_before (a1 : ASlot) (b1 : ASlot) : M (Bool) :=
  M.bif (decide (b1.Align < a1.Align))
    (M.ret true)
    (M.bif (decide (a1.Align = b1.Align))
       (M.ret (decide (b1.Size < a1.Size)))
       (M.ret false))
def r23_Order (s1 : List ASlot) : M (List Int) :=
  M.loop (fun again1 ((i1, out1) : Int × List Int) =>
      M.bif (decide (i1 < (s1.length : Int)))
        (M.join (fun (k1 : Int) =>
             M.chk ((0 : Int) ≤ 0 ∧ 0 ≤ k1 ∧ k1 ≤ (out1.length : Int)) <|
             M.chk ((sliceD out1 0 k1).length < 1000000000000) <|
             M.chk ((sliceD out1 0 k1).length + ([i1] : List Int).length < 1000000000000) <|
             M.chk ((0 : Int) ≤ k1 ∧ k1 ≤ (out1.length : Int) ∧ (out1.length : Int) ≤ (out1.length : Int)) <|
             M.chk (((sliceD out1 0 k1) ++ ([i1] : List Int)).length + (sliceD out1 k1 (out1.length : Int)).length < 1000000000000) <|
             M.chk (okI (i1 + 1)) <|
             again1 ((i1 + 1), (((sliceD out1 0 k1) ++ ([i1] : List Int)) ++ (sliceD out1 k1 (out1.length : Int))))) fun k2 =>
         M.loop (fun again2 (k3 : Int) =>
             M.bif (decide (0 < k3))
               (M.chk ((0 : Int) ≤ i1 ∧ i1 < (s1.length : Int)) <|
                M.chk (okI (k3 - 1)) <|
                M.chk ((0 : Int) ≤ (k3 - 1) ∧ (k3 - 1) < (out1.length : Int)) <|
                M.chk ((0 : Int) ≤ (atD out1 (k3 - 1)) ∧ (atD out1 (k3 - 1)) < (s1.length : Int)) <|
                M.call (r23_before (atD s1 i1) (atD s1 (atD out1 (k3 - 1)))) fun x1 =>
                M.bif x1
                  (M.chk (okI (k3 - 1)) <|
                   again2 (k3 - 1))
                  (k2 k3))
               (k2 k3)) (out1.length : Int))
        (M.ret out1)) (0, ([] : List Int))
def r04_Same (a1 : List Int) (b1 : List Int) : M (Bool) :=
  M.bif (!decide ((a1.length : Int) = (b1.length : Int)))
    (M.ret false)
    (M.loop (fun again1 (i1 : Int) =>
         M.bif (decide (i1 < (a1.length : Int)))
           (M.chk ((0 : Int) ≤ i1 ∧ i1 < (a1.length : Int)) <|
            M.chk ((0 : Int) ≤ i1 ∧ i1 < (b1.length : Int)) <|
            M.bif (!decide ((atD a1 i1) = (atD b1 i1)))
              (M.ret false)
              (M.chk (okI (i1 + 1)) <|
               again1 (i1 + 1)))
           (M.ret true)) 0)
def law23_ColourOrder (raw1 : List ASlot) (codes1 : List Int) : M (Bool) :=
  M.call (law23_awake) fun x1 =>
  M.bif (!x1)
    (M.ret (decide (200 < (raw1.length : Int))))
    (M.bif (decide (200 < (raw1.length : Int)))
       (M.ret (decide (200 < (raw1.length : Int))))
       (M.call (law23_scene codes1) fun x2 =>
        M.call (colour_Order raw1) fun x3 =>
        M.call (r23_Order raw1) fun x4 =>
        M.call (r04_Same x3 x4) fun x5 =>
        M.bif x5
          (M.call (colour_Order x2.1) fun x6 =>
           M.call (r23_Order x2.1) fun x7 =>
           M.call (r04_Same x6 x7) fun x8 =>
           M.ret x8)
          (M.ret false)))
end Go.Proofs.Ythlpmklgokjdkaa.Q
