/- Operations on words that wrap; arrays in variables, at places that are not known. -/
import Derived.Test.YtpjmpkgllnomaaaDoorLg
import Derived.Test.YtpjmpkgllnomaaaDoorIdx
set_option linter.unusedVariables false
set_option linter.unusedSimpArgs false
set_option maxRecDepth 20000
namespace Go.Proofs.YtpjmpkgllnomaaaDoor
open Go.RowKit Q
section
variable {P : Program} {o : Oper} {ev : Operand → SV}
theorem OStep.xorU {x : Operand} {T : TypeId} {n : Int} (ho : o.op = .unOp .xor T x) (hx : ev x = iS .u64 n) : OStep P o ev ⟨[], [], [], iS .u64 (Go.bits .xor .u64 18446744073709551615 n)⟩ :=
  .pure fun C w η F sl hp N a hR hev _ => by
    have e := hR.int ((hev x (by simp [ho, Op.operands])).trans hx)
    refine ⟨.int .u64 (Go.bits .xor .u64 18446744073709551615 n), ?_, .int _ _⟩
    unfold execOp; rw [ho]
    have e2 : (if IntKind.u64.signed = true then -1 else IntKind.u64.max) = (18446744073709551615 : Int) := by decide
    have e3 : (Op.unary .xor (.int .u64 n)).run P w = .ok (.int .u64 (Go.bits .xor .u64 18446744073709551615 n)) w := by simp [Op.unary, e2, go_sem]
    simp [e, e3]
theorem OStep.convW {T T' : TypeId} {x : Operand} {k k' : IntKind} {m : Int} (ho : o.op = .convert T T' x) (hx : ev x = iS k m) (hu : P.underlying T = some (.int k)) (hu' : P.underlying T' = some (.int k')) : OStep P o ev ⟨[], [], [], iS k' (k'.wrap m)⟩ :=
  .pure fun C w η F sl hp N a hR hev _ => by
    have e := hR.int ((hev x (by simp [ho, Op.operands])).trans hx)
    refine ⟨.int k' (k'.wrap m), ?_, .int _ _⟩
    unfold execOp; rw [ho]
    simp [e, convert, run_underlying hu, run_underlying hu', Conv.intToInt]
end
section
variable {N k : Nat} {β : Type} {q : β → Po} {s : St} {m m1 m2 : M β} {all r : List Oper} {τ : List (Option Eff)} {d : Option Tmp} {ty : TypeId} {pos : String} {aft : Array Edge} {x y z : Operand} {T T' e : TypeId} {kd : IntKind} {yT ye : Ty}
theorem X.xorU {i : Int} (h : TS N k all q r (s.put d (iS .u64 (Go.bits .xor .u64 18446744073709551615 i))) (some ⟨[], [], [], iS .u64 (Go.bits .xor .u64 18446744073709551615 i)⟩ :: τ) m) (hx : s.ev x = iS .u64 i := by exact rfl) (hd : dstB N d = true := by exact rfl) : TS N k all q (⟨d, .unOp .xor T x, ty, pos, aft, none⟩ :: r) s τ m := by
  refine X.op (OStep.xorU (P := Tryd.prog) (o := ⟨d, .unOp .xor T x, ty, pos, aft, none⟩) rfl hx) trivial rfl hd ?_
  exact h
theorem X.convW {i : Int} {kd' : IntKind} (h : TS N k all q r (s.put d (iS kd' (kd'.wrap i))) (some ⟨[], [], [], iS kd' (kd'.wrap i)⟩ :: τ) m) (hx : s.ev x = iS kd i := by exact rfl) (hT : (tys.get T).map (·.shp) = some (.int kd) := by exact rfl) (hT' : (tys.get T').map (·.shp) = some (.int kd') := by exact rfl) (hd : dstB N d = true := by exact rfl) : TS N k all q (⟨d, .convert T T' x, ty, pos, aft, none⟩ :: r) s τ m := by
  rw [Option.map_eq_some_iff] at hT hT'
  obtain ⟨y1, h1, h2⟩ := hT
  obtain ⟨y2, h3, h4⟩ := hT'
  refine X.op (OStep.convW (P := Tryd.prog) (o := ⟨d, .convert T T' x, ty, pos, aft, none⟩) rfl hx ((fits h1).int h2) ((fits h3).int h4)) trivial rfl hd ?_
  exact h
theorem X.shlW {i j : Int} {kd' : IntKind} (h : 0 ≤ j ∧ j ≤ 64 → TS N k all q r (s.put d (iS .u64 (IntKind.u64.wrap (i * 2 ^ j.toNat)))) (some ⟨[], [], [], iS .u64 (IntKind.u64.wrap (i * 2 ^ j.toNat))⟩ :: τ) m) (hx : s.ev x = iS .u64 i := by exact rfl) (hy : s.ev y = iS kd' j := by exact rfl) (hd : dstB N d = true := by exact rfl) : TS N k all q (⟨d, .binOp .shl T x y T', ty, pos, aft, none⟩ :: r) s τ (M.chk (0 ≤ j ∧ j ≤ 64) m) := by
  refine X.chk fun hj => X.op (OStep.int2 (P := Tryd.prog) (o := ⟨d, .binOp .shl T x y T', ty, pos, aft, none⟩) rfl hx hy (v := .int .u64 (IntKind.u64.wrap (i * 2 ^ j.toNat))) (fun w => ?_) (fun _ _ => .int _ _)) trivial rfl hd ?_
  · have e : Min.min j.toNat 64 = j.toNat := by omega
    have e2 : ¬ j < 0 := by omega
    simp [binOp, *]
  · exact h hj
/-! places in an array of eight elements -/
theorem all8 {p : Nat → Prop} (h0 : p 0) (h1 : p 1) (h2 : p 2) (h3 : p 3) (h4 : p 4) (h5 : p 5) (h6 : p 6) (h7 : p 7) : ∀ n, n < 8 → p n := by
  intro n hn
  match n, hn with
  | 0, _ => exact h0
  | 1, _ => exact h1
  | 2, _ => exact h2
  | 3, _ => exact h3
  | 4, _ => exact h4
  | 5, _ => exact h5
  | 6, _ => exact h6
  | 7, _ => exact h7
  | n + 8, h => omega
theorem X.idxS (vv : Int → WV) {i : Int} {cells : List AV} {et : TypeId} (h : 0 ≤ i ∧ i < 8 → TS N k all q r (s.put d (.w (vv i))) (some ⟨[], [], [], .w (vv i)⟩ :: τ) m) (hx : s.ev x = .w (.agg cells) := by exact rfl) (hz : s.ev z = iS kd i := by exact rfl) (hT : tys.get T = some yT := by exact rfl) (hs : yT.shp = .array 8 et := by exact rfl) (he : tys.get et = some ye := by exact rfl) (hd : dstB N d = true := by exact rfl) (hr : ∀ n : Nat, n < 8 → cut ye cells (n * ye.size) = some (vv (n : Int)) := by exact all8 rfl rfl rfl rfl rfl rfl rfl rfl) : TS N k all q (⟨d, .index T x z, ty, pos, aft, none⟩ :: r) s τ (M.chk (0 ≤ i ∧ i < 8) m) := by
  refine X.chk fun hi => ?_
  have hn := Int.toNat_of_nonneg hi.1
  have h2 := hr i.toNat (by omega)
  rw [hn] at h2
  exact X.op (ρ := ⟨[], [], [], .w (vv i)⟩) (OStep.idxV (P := Tryd.prog) rfl hx (by rw [hz, hn]) (fits hT) hs (fits he) (n := i.toNat) (by omega) h2) trivial rfl hd (h hi)
theorem X.idxAS {i : Int} {b i0 off : Nat} {eb et : TypeId} {cells : List AV} (h : 0 ≤ i ∧ i < 8 → TS N k all q r (s.put d (.w (.c (.ptr b i0 (off + i.toNat * ye.size))))) (some ⟨[(b, .bx eb cells)], [], [], .w (.c (.ptr b i0 (off + i.toNat * ye.size)))⟩ :: τ) m) (hx : s.ev x = .w (.c (.ptr b i0 off)) := by exact rfl) (hb : lookH s.heap b = some (.bx eb cells) := by exact rfl) (hz : s.ev z = iS kd i := by exact rfl) (hT : tys.get T = some yT := by exact rfl) (hs : yT.shp = .array 8 et := by exact rfl) (he : tys.get et = some ye := by exact rfl) (hd : dstB N d = true := by exact rfl) : TS N k all q (⟨d, .indexAddr T x z, ty, pos, aft, none⟩ :: r) s τ (M.chk (0 ≤ i ∧ i < 8) m) :=
  X.chk fun hi => X.up (h hi) fun _ hK => G.idxA hx (by rw [hz, Int.toNat_of_nonneg hi.1]) hb hT hs he (by omega) hd hK
theorem X.ldAS (vv : Int → WV) (off sz fo : Nat) {i : Int} (hi : 0 ≤ i ∧ i < 8) {b i0 : Nat} {eb : TypeId} {cells : List AV} (h : TS N k all q r (s.put d (.w (vv i))) (some ⟨[(b, .bx eb cells)], [], [], .w (vv i)⟩ :: τ) m) (hx : s.ev x = .w (.c (.ptr b i0 (off + i.toNat * sz + fo))) := by exact rfl) (hb : lookH s.heap b = some (.bx eb cells) := by exact rfl) (hT : tys.get T = some yT := by exact rfl) (hd : dstB N d = true := by exact rfl) (hr : ∀ n : Nat, n < 8 → cut yT cells (off + n * sz + fo) = some (vv (n : Int)) := by exact all8 rfl rfl rfl rfl rfl rfl rfl rfl) : TS N k all q (⟨d, .load T x, ty, pos, aft, none⟩ :: r) s τ m := by
  have h2 := hr i.toNat (by omega)
  rw [Int.toNat_of_nonneg hi.1] at h2
  exact X.up h fun _ hK => G.loadBx hx hb hT h2 hd hK
theorem X.stAS (cn : Int → List AV) (off sz fo : Nat) {i : Int} (hi : 0 ≤ i ∧ i < 8) {b i0 : Nat} {eb : TypeId} {cells : List AV} {v : WV} (h : TS N k all q r (s.eff d ⟨[(b, .bx eb cells)], [], [(b, some (.bx eb (cn i)))], SV.any⟩) (some ⟨[(b, .bx eb cells)], [], [(b, some (.bx eb (cn i)))], SV.any⟩ :: τ) m) (hx : s.ev x = .w (.c (.ptr b i0 (off + i.toNat * sz + fo))) := by exact rfl) (hb : lookH s.heap b = some (.bx eb cells) := by exact rfl) (hz : s.ev z = .w v := by exact rfl) (hT : tys.get T = some yT := by exact rfl) (hok : v.ok = true := by exact rfl) (hl : v.cells.length = yT.size := by exact rfl) (hle : ∀ n : Nat, n < 8 → Nat.ble (off + n * sz + fo + yT.size) cells.length = true := by exact all8 rfl rfl rfl rfl rfl rfl rfl rfl) (hd : dstB N d = true := by exact rfl) (hp : ∀ n : Nat, n < 8 → putAt cells (off + n * sz + fo) v.cells = cn (n : Int) := by exact all8 rfl rfl rfl rfl rfl rfl rfl rfl) : TS N k all q (⟨d, .store T x z, ty, pos, aft, none⟩ :: r) s τ m := by
  have h2 := hp i.toNat (by omega)
  have h3 := hle i.toNat (by omega)
  rw [Int.toNat_of_nonneg hi.1] at h2
  rw [← h2] at h
  exact X.up h fun _ hK => G.storeBx hx hb hz hT hok hl h3 hd hK
/-! several slices of one's own as a result -/
theorem X.callOM (Nw : List Nat) (S : List (Nat × Blk)) {γ : Type} {m1 : M γ} {kk : γ → M β} {E : γ → List Blk} {f : FuncId} {args : List Operand} {Ts : Array TypeId} {aa0 aa : List WV} {rv : γ → SV} (hf : ∀ a, m1 a → FCalls Tryd.prog f [] aa (rv a) (E a) []) (h : ∀ a, TS N k all q r (s.eff d ⟨lendNeed S [] [], Nw, callUpd true S [] [] Nw (E a), (rv a).ren (callRen [] Nw)⟩) (some ⟨lendNeed S [] [], Nw, callUpd true S [] [] Nw (E a), (rv a).ren (callRen [] Nw)⟩ :: τ) (kk a)) (hE : ∀ a, (E a).all (fun b => b.isSl && b.live) = true := by exact fun _ => rfl) (hNl : ∀ a, Nw.length = (E a).length := by exact fun _ => rfl) (ha : argsW S [] s.ev args = some aa0 := by exact rfl) (haa : aa0.map tzW = aa := by exact rfl) (hn : s.needOk (lendNeed S [] []) := by exact trivial) (hS : S.all (fun p => p.2.isSl) = true := by exact rfl) (hnd : nodupB ([] ++ Nw ++ S.map (·.1)) = true := by exact rfl) (hr : ∀ a, (rv a).below (0 + (E a).length) = true := by exact fun _ => rfl) (hw : Nw.all (fun b => s.freshB k b) = true := by exact rfl) (hd : dstB N d = true := by exact rfl) : TS N k all q (⟨d, .call { callee := .value (.func f), args := args.toArray, argTypes := Ts }, ty, pos, aft, none⟩ :: r) s τ (M.call m1 kk) := by
  refine ⟨fun v hv => ?_⟩
  obtain ⟨a, h1, h2⟩ := M.call_iff.1 hv
  subst haa
  refine G.call true S [] Nw (FCalls.tz (hf a h1)) ha rfl hS (nodupB_ok hnd) (hNl a) (fun kb hkb => ?_) (hr a) (by simp) hn (by simpa using hw) hd ((h a).out v h2)
  have h3 := List.all_eq_true.1 (hE a) kb hkb
  cases kb with
  | sl e sz f rows => cases f with
    | false => exact exp_sl _ _ _
    | true => exact absurd h3 (by simp [Blk.live])
  | bx e cs => exact absurd h3 (by simp [Blk.isSl])
  | gh Φ => exact absurd h3 (by simp [Blk.isSl])
theorem Ret.cloOM {rs : List ResultVar} {rv : SV} {B' : List (TypeId × List TV)} (bs : List Nat) (l : List WV) {E : List Blk} (h : ResOk Tryd.prog s rs l) (hB : HeapIs s (expRen k bs) 0 B') (hE : ExpIs s bs E := by exact ⟨rfl, rfl, rfl, rfl, trivial⟩) (hkb : bs.all (fun b => Nat.ble k b) = true := by exact rfl) (hnd : nodupB bs = true := by exact rfl) (hr : resSV l = rv.ren (expRen k bs) := by exact rfl) (hbl : rv.below (k + E.length) = true := by exact rfl) : Ret N k rs rv E B' s := by
  refine ⟨s, .refl s, l, bs, h, hr, hE, ?_, hB, hbl⟩
  refine List.nodup_append.2 ⟨List.nodup_range, nodupB_ok hnd, ?_⟩
  intro a ha c hc
  have h1 := List.mem_range.1 ha
  have h2 := Nat.le_of_ble_eq_true (List.all_eq_true.1 hkb c hc)
  omega
end
end Go.Proofs.YtpjmpkgllnomaaaDoor
