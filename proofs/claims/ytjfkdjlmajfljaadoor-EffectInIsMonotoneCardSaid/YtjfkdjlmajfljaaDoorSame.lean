/- The contract of the reference's Same. -/
import Derived.Test.YtjfkdjlmajfljaaDoorMem
import Derived.Test.YtjfkdjlmajfljaaDoorRows
import Derived.WalkLawsBesides
import Derived.Deep.QuietTactic
import Derived.BigQuiet
namespace Go.Proofs.YtjfkdjlmajfljaaDoor
open Go.RowKit
theorem take_succ_eq {l m : List Int} {k : Nat} (hl : k < l.length) (hm : k < m.length) (h : l.take k = m.take k) (he : l[k] = m[k]) : l.take (k + 1) = m.take (k + 1) := by
  rw [List.take_succ_eq_append_getElem hl, List.take_succ_eq_append_getElem hm, h, he]
set_option maxHeartbeats 400000 in
theorem Same_any (v u : Value) (l m : List Int) (S S' : Nat → Prop) (w : World) (hv : Holds w S 1 v l.length (l.map (Value.int .i64))) (hu : Holds w S' 1 u m.length (m.map (Value.int .i64))) :
    Calls Tryd.prog 23 #[v, u] w fun e w' => e = .returned (.bool (decide (l = m))) ∧ ∃ n, w' = w.drewN n := by
  have hv0 := hv
  have hu0 := hu
  obtain ⟨A, c, rfl, hc1, hc2, _, _⟩ := hv
  obtain ⟨A', c', rfl, hd1, hd2, _, _⟩ := hu
  unfold maxLen at hc2 hd2
  have HV := hide hv0
  have HU := hide hu0
  clear hv0 hu0
  by_cases hlen : l.length = m.length
  · have hb : ((l.length : Int) != (m.length : Int)) = false := by rw [hlen]; simp
    have HL := hide hlen
    clear hlen
    go_enter Tryd.func23, Tryd.ntmps23
    go_wp2
    go_loopw [5] (fun i wr => ∃ k : Nat, k ≤ l.length ∧ i = .int .i64 k ∧ (∃ n, wr = w.drewN n) ∧ Hid (l.take k = m.take k)) (fun i _ => l.length - (intOf i).toNat)
    case atStart => exact ⟨0, by omega, rfl, ⟨0, rfl⟩, rfl⟩
    case round =>
      obtain ⟨k, hk, rfl, ⟨nq, rfl⟩, HT⟩ := hrel
      by_cases hlt : k < l.length
      · have hltm : k < m.length := by have := HL.out; omega
        have hd1 : (k : Int) < (l.length : Int) := by omega
        have hd2 : (k : Int) < (m.length : Int) := by omega
        have hd3 : (0 : Int) ≤ (k : Int) := by omega
        obtain ⟨b, o, rfl, _, hx⟩ := HV.out.atInt hlt
        obtain ⟨b', o', rfl, _, hx'⟩ := HU.out.atInt hltm
        by_cases he : l[k] = m[k]
        · have hb2 : (l[k] != m[k]) = false := by simpa using he
          have HE := hide he
          clear he
          go_wp2
          go_quiet (fail)
          go_wp2
          go_roundw
          case rel => exact ⟨k + 1, by omega, by go_num, ⟨_, rfl⟩, take_succ_eq hlt hltm HT.out HE.out⟩
          case measure => simp [intOf]; omega
        · have hb2 : (l[k] != m[k]) = true := by simpa using he
          have HE := hide he
          clear he
          go_wp2
          go_quiet (fail)
          go_wp2
          go_ret
          refine ⟨?_, _, World.drewN_drewN _ _ _⟩
          have : decide (l = m) = false := decide_eq_false (fun h => HE.out (by subst h; rfl))
          rw [this]
          rfl
      · go_wp2
        go_ret
        refine ⟨?_, _, rfl⟩
        have hk' : k = l.length := by omega
        have h1 := HT.out
        rw [hk', List.take_of_length_le (Nat.le_refl _), HL.out, List.take_of_length_le (Nat.le_refl _)] at h1
        rw [decide_eq_true h1]
        rfl
  · have hb : ((l.length : Int) != (m.length : Int)) = true := by simp; omega
    have : decide (l = m) = false := decide_eq_false (fun h => hlen (by rw [h]))
    rw [this]
    clear hlen this
    go_enter Tryd.func23, Tryd.ntmps23
    go_wp2
    go_ret
    exact ⟨rfl, 0, rfl⟩
end Go.Proofs.YtjfkdjlmajfljaaDoor
