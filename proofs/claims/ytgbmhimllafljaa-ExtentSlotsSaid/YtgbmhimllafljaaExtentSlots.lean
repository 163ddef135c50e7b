/- The walk of ExtentSlots. -/
import Derived.Test.YtgbmhimllafljaaSlotsAlign
import Derived.Test.YtgbmhimllafljaaClose
namespace Go.Proofs.Ytgbmhimllafljaa
open Go.RowKit
theorem okB_of {l : List (Int × Int)} (h : SlotsOk l) : l.all okB = true := by
  rw [List.all_eq_true]
  intro s hs
  obtain ⟨h1, h2⟩ := h s hs
  unfold okB
  rw [(sizeB_iff _).2 h1]
  unfold AlignOk at h2
  rcases h2 with h | h | h | h | h | h | h <;> rw [h] <;> decide +kernel
/- a row of three values of slots -/
def Three (w : World) (b : Nat) : Prop :=
  ∀ k : Nat, k < 3 → ∃ A n c l, w.cell? ⟨b, k, none⟩ = some (.slice A n c) ∧ l.length = n ∧ Holds w (fun b => b < w.heap.size) 2 (.slice A n c) l.length (slotCells l)
set_option maxRecDepth 100000 in
set_option maxHeartbeats 1000000 in
theorem walk_ExtentSlots (v : Value) (l : List (Int × Int)) (u : Value) (cs : List Int) (w : World) (hv : Holds w (fun b => b < w.heap.size) 2 v l.length (slotCells l))
    (hu : Holds w (fun b => b < w.heap.size) 1 u cs.length (cs.map (Value.int .u8))) (hcs : ∀ z ∈ cs, 0 ≤ z ∧ z ≤ 255) :
    Calls Try.prog 9 #[v, u] w fun e w' => e = .returned (.bool true) ∧ Below w.heap.size w w' := by
  have hv0 := hv
  obtain ⟨A, cp, rfl, hc1, hc2, _, _⟩ := hv
  unfold maxLen at hc2
  have HV := hide hv0
  have HU := hide hu
  have HC := hide hcs
  clear hv0 hu hcs
  by_cases hlen : 600 < l.length
  · have hlen2 : (600 : Int) < (l.length : Int) := by omega
    go_enter Try.func9, Try.ntmps9
    go_wp2_with (first | (go_at_call 13; refine (awake03 _).mono ?_; rintro e w1 ⟨rfl, rfl⟩))
    go_ret
    exact ⟨rfl, Below.refl _ _⟩
  · have hlen2 : ¬ (600 : Int) < (l.length : Int) := by omega
    go_enter Try.func9, Try.ntmps9
    go_wp2_with (first | (go_at_call 13; refine (awake03 _).mono ?_; rintro e w1 ⟨rfl, rfl⟩))
    refine (New_any u cs 60 _ HU.out HC.out (by omega)).mono ?_
    rintro e w2 ⟨rfl, hcd, hb2⟩
    have HB2 := hide hb2
    have HCD := hide hcd
    have hz2 := hcd.2.1
    clear hb2 hcd
    go_wp2_with fail
    refine (Slots_any _ _ 10 _ HCD.out (by omega)).mono ?_
    rintro e w3 ⟨⟨v1, l1, rfl, ho1, hn1, hok1⟩, hcd3, hk3⟩
    have HO1 := hide ho1
    have HOK := hide hok1
    have HCD3 := hide hcd3
    have HB3 := hide (HB2.out.trans (hk3.below (fun b hb => by omega) HB2.out.size))
    clear ho1 hok1 hcd3 hk3 HCD HB2
    go_wp2_with fail
    refine (Next_any _ _ 2 _ HCD3.out (by omega) (by omega)).mono ?_
    rintro e w4 ⟨⟨x, rfl, hx0, hx1, _⟩, hcd4, hk4⟩
    have hx2 := hx1 (by omega)
    have HB4 := hide (HB3.out.trans (hk4.below (fun b hb => by omega) HB3.out.size))
    have HO4 := hide (ownsRow_keep HO1.out hk4 (fun b hb => by have := HB3.out.size; omega))
    have hsz : w.heap.size ≤ w4.heap.size := HB4.out.size
    clear hcd4 hk4 hx1 HO1 HCD3 HB3
    go_wp2_with fail
    go_loopw [7, 8] (fun v n wr => ∃ (m k : Nat), n = .int .i64 k ∧ m + k ≤ 513 ∧ Hid (wr.ownsRow w4.heap.size 65 2 v m (slotCells (List.replicate m (1, 1)))) ∧ Hid (Below w4.heap.size w4 wr)) (fun _ n _ => (intOf n).toNat)
    case atStart =>
      obtain ⟨k, rfl⟩ := Int.eq_ofNat_of_zero_le hx0
      exact ⟨0, 512 + k, by go_num, by omega, World.ownsRow_nil _ _ _ _, hide (Below.refl _ _)⟩
    case round =>
      obtain ⟨m, k, rfl, hmk, HM, HB⟩ := hrel
      by_cases hlt : 0 < k
      · have hd : (0 : Int) < (k : Int) := by omega
        have hown := HM.out
        obtain ⟨i0, hi, hz0, hz1, hz2⟩ := info_parts slot_info
        go_wp2_with (at_builtin; refine wpList_append_own _ rfl _ _ 31 rfl w4.heap.size 65 i0 _ 2 16 Try.underlying31 hi hz0 hz1 hz2 rfl (by decide) _ _ _ rfl (hown.alloc _) ⟨wr.heap.size, 0, none⟩ 1 1 [.int .i64 1, .int .i64 1] rfl rfl ?c1 ?c2 ?c3 ?c4 ?c5 ?_)
        case c1 =>
          intro j u hj
          match j, hj with
          | 0, hj => simp at hj; subst hj; simp [Addr.add]
          | 1, hj => simp at hj; subst hj; simp [Addr.add]
        case c2 => intro u hu; simp at hu; subst hu; rfl
        case c3 => unfold maxLen; omega
        case c4 => omega
        case c5 => have := HB.out.size; simp; omega
        intro v' w5 hown5 hgrow5 _
        have HB5 := hide ((((Keeps.of_below (K := fun b => b < w4.heap.size) HB.out).alloc _).grown hgrow5 (fun k hk => .inl (by have := (hown.lt k hk).1; omega))).below (fun b hb => hb) (Nat.le_refl _))
        have HO5 := hide hown5
        clear hgrow5 hown5 hown
        go_wp2
        go_roundw
        case rel =>
          refine ⟨m + 1, k - 1, by go_num, by omega, ?_, HB5⟩
          have := HO5.out
          rw [List.replicate_succ', slotCells_append]
          exact hide this
        case measure => simp only [intOf]; omega
      · have hd : ¬ (0 : Int) < (k : Int) := by omega
        have h1 := (Holds.of_own HO4.out).below (B := w4.heap.size) HB.out (fun b hb => hb.2)
        have h2 := Holds.of_own HM.out
        have h0 := (HV.out.below (B := w.heap.size) HB4.out (fun b hb => hb)).below (B := w4.heap.size) HB.out (fun b hb => by omega)
        have H0 := hide (h0.mono (S' := fun b => b < wr.heap.size) (fun b hb => by have := HB.out.size; omega))
        have H1 := hide (h1.mono (S' := fun b => b < wr.heap.size) (fun b hb => by have := HB.out.size; omega))
        have H2 := hide (h2.mono (S' := fun b => b < wr.heap.size) (fun b hb => by omega))
        have HE := hide (slotsE_ok (l := l1) (by omega) (okB_of HOK.out))
        have hsr := HB.out.size
        have hszr : w.heap.size ≤ wr.heap.size := by omega
        have HBR := hide (HB4.out.trans (HB.out.mono hsz))
        clear h0 h1 h2 HM HO4 HOK HB HB4 HV HU HC
        obtain ⟨A1, c1, rfl, hd1, hd2, _, _⟩ := H1.out
        obtain ⟨A2, c2, rfl, he1, he2, _, _⟩ := H2.out
        go_wp2
        generalize hws : wr.alloc (Obj.cells #[.slice A l.length cp, .slice A1 l1.length c1, .slice A2 m c2] 31) = ws at *
        have HBS : Hid (Below w.heap.size w ws) := by subst hws; exact hide (HBR.out.alloc hszr _)
        have hss : ws.heap.size = wr.heap.size + 1 := by subst hws; simp
        have HBrs : Hid (Below wr.heap.size wr ws) := by subst hws; exact hide ((Below.refl _ _).alloc (Nat.le_refl _) _)
        have T : Hid (Three ws wr.heap.size) := by
          refine hide (fun k hk => ?_)
          have up : ∀ b, b < wr.heap.size → b < ws.heap.size := fun b hb => by omega
          match k, hk with
          | 0, _ => exact ⟨A, l.length, cp, l, by subst hws; go_simp, rfl, (H0.out.below HBrs.out (fun b hb => hb)).mono up⟩
          | 1, _ => exact ⟨A1, l1.length, c1, l1, by subst hws; go_simp, rfl, (H1.out.below HBrs.out (fun b hb => hb)).mono up⟩
          | 2, _ => exact ⟨A2, m, c2, List.replicate m (1, 1), by subst hws; go_simp, by simp, by have := (H2.out.below HBrs.out (fun b hb => hb)).mono up; simpa using this⟩
        have HL := hide ((H1.out.below HBrs.out (fun b hb => hb)).mono (S' := fun b => b < ws.heap.size) (fun b hb => by omega))
        clear H0 H1 H2 hws HBR HBrs
        generalize wr.heap.size = bn at *
        go_loopw [41] (fun i wx => ∃ k : Nat, k ≤ 3 ∧ i = .int .i64 k ∧ Hid (Below ws.heap.size ws wx)) (fun i _ => 3 - (intOf i).toNat)
        case atStart => exact ⟨0, by omega, rfl, hide (Below.refl _ _)⟩
        case round =>
          obtain ⟨k, hk3, rfl, HB⟩ := hrel
          by_cases hlt : k < 3
          · have hd : (k : Int) < 3 := by omega
            obtain ⟨A3, n3, c3, l3, hcell, rfl, hh⟩ := T.out k hlt
            have hl := hh.le
            rw [← Below.cell HB.out (by omega : bn < ws.heap.size)] at hcell
            have hh2 := (hh.below HB.out (fun b hb => hb)).mono (S' := fun b => b < wr.heap.size) (fun b hb => by have := HB.out.size; omega)
            have HH := hide hh2
            clear hh hh2
            go_wp2_with fail
            refine (eSlots_any _ _ _ _ HH.out (fun _ h => h)).mono ?_
            rintro e wa ⟨rfl, hb⟩
            have HHa := hide ((HH.out.below hb (fun b hb => hb)).mono (S' := fun b => b < wa.heap.size) (fun b hc => by have := hb.size; omega))
            have HBa := hide (HB.out.trans (hb.mono HB.out.size))
            clear hb HH HB
            go_wp2_with (first | (go_at_call 40; refine (rSlots_any _ _ _ _ HHa.out).mono ?_; rintro e w' ⟨rfl, rfl⟩))
            refine (Align_any _ _ _ _ HHa.out (fun _ h => h)).mono ?_
            rintro e wb ⟨rfl, hb⟩
            have HHb := hide ((HHa.out.below hb (fun b hb => hb)).mono (S' := fun b => b < wb.heap.size) (fun b hc => by have := hb.size; omega))
            have HBb := hide (HBa.out.trans (hb.mono HBa.out.size))
            clear hb HHa HBa
            go_wp2_with (first | (go_at_call 42; refine (rAlign_any _ _ _ _ HHb.out).mono ?_; rintro e w' ⟨rfl, rfl⟩))
            go_roundw
            case rel => exact ⟨k + 1, by omega, by go_num, HBb⟩
            case measure => simp only [intOf]; omega
          · have hd : ¬ (k : Int) < 3 := by omega
            have HX := hide ((HL.out.below HB.out (fun b hb => hb)).mono (S' := fun b => b < wr.heap.size) (fun b hb => by have := HB.out.size; omega))
            go_wp2_with fail
            refine (eSlots_any _ _ _ _ HX.out (fun _ h => h)).mono ?_
            rw [HE.out]
            rintro e wa ⟨rfl, hb⟩
            have HBa := hide (HBS.out.trans ((HB.out.trans (hb.mono HB.out.size)).mono HBS.out.size))
            clear hb HX HB
            go_wp2_with fail
            go_ret
            exact ⟨rfl, HBa.out⟩
def pairs (l : List (List Int)) : List (Int × Int) := l.map fun r => (r.getD 0 0, r.getD 1 0)
theorem slotCells_pairs {l : List (List Int)} (h : ∀ r ∈ l, r.length = 2) : l.flatMap (fun r => List.zipWith Value.int [IntKind.i64, IntKind.i64] r) = slotCells (pairs l) := by
  induction l with
  | nil => rfl
  | cons r l ih =>
    obtain ⟨a, b, rfl⟩ := list_of_2 (h r (List.mem_cons_self ..))
    have := ih (fun r hr => h r (List.mem_cons_of_mem _ hr))
    simp only [List.flatMap_cons, this, pairs, slotCells, List.map_cons]
    rfl
theorem law_ExtentSlots (v : Value) (l : List (List Int)) (u : Value) (cs : List Int) (w : World) (hv : Holds w (fun b => b < w.heap.size) 2 v l.length (l.flatMap (List.zipWith Value.int [IntKind.i64, IntKind.i64])))
    (hl : ∀ zs ∈ l, zs.length = 2 ∧ ∀ (j : Nat) (k : IntKind) (z : Int), [IntKind.i64, IntKind.i64][j]? = some k → zs[j]? = some z → (Lit.int k z).wf = true)
    (hu : Holds w (fun b => b < w.heap.size) 1 u cs.length (cs.map (Value.int .u8))) (hcs : ∀ z ∈ cs, 0 ≤ z ∧ z ≤ 255) :
    Calls Try.prog 9 #[v, u] w fun e w' => e = .returned (.bool true) ∧ Below w.heap.size w w' := by
  have e : l.length = (pairs l).length := by simp [pairs]
  have e2 : l.flatMap (List.zipWith Value.int [IntKind.i64, IntKind.i64]) = slotCells (pairs l) := slotCells_pairs fun r hr => (hl r hr).1
  rw [e, e2] at hv
  exact walk_ExtentSlots v (pairs l) u cs w hv hu hcs
end Go.Proofs.Ytgbmhimllafljaa
