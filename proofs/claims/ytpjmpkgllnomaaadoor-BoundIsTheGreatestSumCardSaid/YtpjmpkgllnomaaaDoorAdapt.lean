/- The package bitset, whose contracts were proved by hand, beside the lifted texts. -/
import Derived.Test.YtpjmpkgllnomaaaDoorLift
import Derived.Test.YtpjmpkgllnomaaaDoorGr
set_option linter.unusedSimpArgs false
set_option linter.unusedVariables false
namespace Go.Proofs.YtpjmpkgllnomaaaDoor.Q
open Go.RowKit
theorem in512_eq (n : Int) : in512 n = inB n := by
  cases h : inB n <;> simp_all [in512, inB] <;> omega
theorem hasI_memP (s : List Int) (n : Int) : hasI (memP s) n = (in512 n && decide (n ∈ s)) := by
  rw [in512_eq]
  unfold hasI memP
  cases h : inB n with
  | false => rfl
  | true =>
    have h1 : 0 ≤ n ∧ n < 512 := by simpa [inB] using h
    have e : ((n.toNat : Nat) : Int) = n := Int.toNat_of_nonneg h1.1
    have h2 : n.toNat < 512 := by omega
    simp [e, h2]
theorem listP_setOf {p : Nat → Bool} {l : List Int} (h : ∀ k, k < 512 → p k = decide ((k : Int) ∈ l)) : listP p = setOf l := by
  have e : (List.range 512).filter p = (List.range 512).filter fun k : Nat => decide ((k : Int) ∈ l) := List.filter_congr fun k hk => h k (List.mem_range.1 hk)
  unfold listP setOf
  rw [e]
theorem bitset_Has_ok (s1 : List Int) (n1 : Int) : ∀ r : Bool, bitset_Has s1 n1 r → FCalls Tryd.prog 28 [] [.c (.v (.tree (s1.map iRow))), .c (.v (.int .i64 n1))] (.w (.c (.v (.bool r)))) [] [] := by
  intro r hr
  rw [M.ret_iff.1 hr, ← hasI_memP]
  exact bsHas s1 n1
theorem bitset_Add_ok (s1 : List Int) (n1 : Int) : ∀ r : List Int, bitset_Add s1 n1 r → FCalls Tryd.prog 30 [] [.c (.v (.tree (s1.map iRow))), .c (.v (.int .i64 n1))] (.w (.c (.v (.tree (r.map iRow))))) [] [] := by
  intro r hr
  rw [M.ret_iff.1 hr, ← listP_setOf (p := putI (memP s1) n1 true) fun k hk => by rw [memP_snoc]; simp [memP, hk]]
  exact bsAdd s1 n1
theorem ascS_okAt (l : List Int) : ascS l = checkL l := by
  unfold ascS checkL
  congr 1
  funext j
  cases j with
  | zero => simp [okAt, in512_eq]
  | succ j => simp [okAt, in512_eq, List.getD]
theorem bitset_Check_ok (s1 : List Int) : ∀ r : Bool, bitset_Check s1 r → FCalls Tryd.prog 27 [] [.c (.v (.tree (s1.map iRow)))] (.w (.c (.v (.bool r)))) [] [] := by
  intro r hr
  rw [M.ret_iff.1 hr, ascS_okAt]
  exact bsCheck s1
end Go.Proofs.YtpjmpkgllnomaaaDoor.Q
