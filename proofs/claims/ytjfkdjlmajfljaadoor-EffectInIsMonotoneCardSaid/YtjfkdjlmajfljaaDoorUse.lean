/- Laws for daily use: new blocks under the next number, appends of one element, calls that hand closed values over. -/
import Derived.Test.YtjfkdjlmajfljaaDoorStep
namespace Go.Proofs.YtjfkdjlmajfljaaDoor
open Go.RowKit

def pickNb : List (Option Blk) → List Nat → Option Nat
  | [], n :: _ => some n
  | _ :: h, _ :: ns => pickNb h ns
  | _, [] => none
def nbs : List Nat := [0, 1, 2, 3, 4, 5, 6, 7, 8, 9, 10, 11, 12, 13, 14, 15, 16, 17, 18, 19, 20, 21, 22, 23, 24, 25, 26, 27, 28, 29, 30, 31, 32, 33, 34, 35, 36, 37, 38, 39, 40, 41, 42, 43, 44, 45, 46, 47, 48, 49, 50]

theorem exp_bx (e : TypeId) (ts : List TV) : (Blk.bx e (ts.map .v)).exp := ⟨ts, rfl⟩
section
variable {N k nb : Nat} {Q : Po} {s : St} {all r : List Oper} {τ : List (Option Eff)} {d : Option Tmp} {ty : TypeId} {pos : String} {aft : Array Edge} {x y z : Operand} {T T' e : TypeId} {kd : IntKind} {yT ye : Ty}

theorem U.buildSlice (_ : pickNb s.heap nbs = some nb) {nn : Nat} {parts : List (Nat × Operand)} {lp : List (Nat × WV)} {rows : List (List TV)} (hT : tys.get T = some yT) (hs : yT.shp = .slice e) (he : tys.get e = some ye) (hz : ye.zero.length = ye.size) (h0 : Nat.blt 0 ye.size = true) (hpa : partsA s.ev parts = some lp) (hr : rowsA 0 lp = some rows) (hsz : rows.all (fun row => Nat.beq row.length ye.size) = true) (hn : rows.length = nn) (hc : Nat.ble (nn * ye.size) 16777216 = true) (hw : s.freshB k nb = true) (hd : dstB N d = true) (h : TRun N k all Q r (s.eff d ⟨[], [nb], [(nb, some (.sl e ye.size false rows))], .w (.c (.mref nb))⟩) (some ⟨[], [nb], [(nb, some (.sl e ye.size false rows))], .w (.c (.mref nb))⟩ :: τ)) : TRun N k all Q (⟨d, .buildSlice T nn parts.toArray, ty, pos, aft, none⟩ :: r) s τ := G.buildSlice nb hT hs he hz h0 hpa hr hsz hn hc hw hd h
theorem U.alloc (_ : pickNb s.heap nbs = some nb) (hT : tys.get T = some yT) (hz : yT.zero.isEmpty = false) (hw : s.freshB k nb = true) (hd : dstB N d = true) (h : TRun N k all Q r (s.eff d ⟨[], [nb], [(nb, some (.bx T (yT.zero.map .v)))], .w (.c (.ptr nb 0 0))⟩) (some ⟨[], [nb], [(nb, some (.bx T (yT.zero.map .v)))], .w (.c (.ptr nb 0 0))⟩ :: τ)) : TRun N k all Q (⟨d, .alloc T, ty, pos, aft, none⟩ :: r) s τ := G.alloc nb hT hz hw hd h
theorem U.box (_ : pickNb s.heap nbs = some nb) {v : WV} (hx : s.ev x = .w v) (hok : v.ok = true) (hm : v.cells.any (AV.ment nb) = false) (hw : s.freshB k nb = true) (hd : dstB N d = true) (h : TRun N k all Q r (s.eff d ⟨[], [nb], [(nb, some (.bx T v.cells))], .w (.c (.ptr nb 0 0))⟩) (some ⟨[], [nb], [(nb, some (.bx T v.cells))], .w (.c (.ptr nb 0 0))⟩ :: τ)) : TRun N k all Q (⟨d, .box T x, ty, pos, aft, none⟩ :: r) s τ := G.box nb hx hok hm hw hd h
theorem U.make (_ : pickNb s.heap nbs = some nb) {kd' : IntKind} {nn : Nat} {m m' : Int} (hx' : s.ev x = iS kd m) (hz'' : s.ev z = iS kd' m') (hm : m = (nn : Int)) (hm' : m' = m) (hT : tys.get T = some yT) (hs : yT.shp = .slice e) (he : tys.get e = some ye) (hz : ye.zero.length = ye.size) (h0 : Nat.blt 0 ye.size = true) (hby : Nat.ble ye.bytes 256 = true) (hnn : nn ≤ 1000000000000) (hw : s.freshB k nb = true) (hd : dstB N d = true) (h : TRun N k all Q r (s.eff d ⟨[], [nb], [(nb, some (.sl e ye.size false (List.replicate nn ye.zero)))], .w (.c (.mref nb))⟩) (some ⟨[], [nb], [(nb, some (.sl e ye.size false (List.replicate nn ye.zero)))], .w (.c (.mref nb))⟩ :: τ)) : TRun N k all Q (⟨d, .makeSlice T x z, ty, pos, aft, none⟩ :: r) s τ :=
  G.make nb (by rw [hx', hm]) (by rw [hz'', hm', hm]) hT hs he hz h0 (by
    have h1 : ye.bytes ≤ 256 := Nat.le_of_ble_eq_true hby
    have h2 : ye.bytes * nn ≤ 256 * nn := Nat.mul_le_mul_right nn h1
    omega) (by omega) hw hd h
/-- One element is appended to a slice of one's own. -/
theorem U.app1 (_ : pickNb s.heap nbs = some nb) {α : Type} {g : α → List TV} {l : List α} {v : α} {b c : Nat} {eb ec : TypeId} {sz szc : Nat} {f : Bool} {row : List TV} (hx : s.ev x = .w (.c (.mref b))) (hbk : lookH s.heap b = some (.sl eb sz false (l.map g))) (hz' : s.ev z = .w (.c (.mref c))) (hck : lookH s.heap c = some (.sl ec szc f [row])) (hg : g v = row) (hT : tys.get T = some yT) (hs : yT.shp = .slice eb) (he : tys.get eb = some ye) (hsz : sz = ye.size) (hszc : szc = ye.size) (hz : ye.zero.length = ye.size) (h0 : Nat.blt 0 ye.size = true) (hby : Nat.blt 0 ye.bytes = true) (hby' : Nat.ble ye.bytes 128 = true) (hl : l.length < 1000000000000) (hw : s.freshB k nb = true) (hd : dstB N d = true)
    (h : TRun N k all Q r (s.eff d ⟨[(b, .sl eb ye.size false (l.map g)), (c, .sl ec ye.size f [row])], [nb], [(b, none), (nb, some (.sl eb ye.size false ((l ++ [v]).map g)))], .w (.c (.mref nb))⟩) (some ⟨[(b, .sl eb ye.size false (l.map g)), (c, .sl ec ye.size f [row])], [nb], [(b, none), (nb, some (.sl eb ye.size false ((l ++ [v]).map g)))], .w (.c (.mref nb))⟩ :: τ)) : TRun N k all Q (⟨d, .call { callee := .builtin .append, args := #[x, z], argTypes := #[T, T] }, ty, pos, aft, none⟩ :: r) s τ := by
  subst hg
  have e1 : (l ++ [v]).map g = l.map g ++ [g v] := by simp
  rw [e1] at h
  refine G.appM nb (rows' := [g v]) hx hbk hT hs he hsz hz h0 hby (.own c ec f [g v] hz') ⟨by rw [← hszc]; exact hck, trivial⟩ ?_ hw hd h
  have h1 : ye.bytes ≤ 128 := Nat.le_of_ble_eq_true hby'
  rw [List.length_map, List.length_singleton]
  have h2 : (l.length + 1) * ye.bytes ≤ (l.length + 1) * 128 := Nat.mul_le_mul_left _ h1
  omega

/-- An index that is any expression. -/
theorem U.idxT {α : Type} {g : α → List TV} {l : List α} {v : α} {m : Int} {n : Nat} (hx : s.ev x = tS (l.map g)) (hz : s.ev z = iS kd m) (hm : m = (n : Int)) (hv : l[n]? = some v) (hT : tys.get T = some yT) (hs : yT.shp = .slice e) (he : tys.get e = some ye) (hsz : (g v).length = ye.size) (hd : dstB N d = true) (h : TRun N k all Q r (s.put d (.w (.c (.tptr (g v) 0)))) (some ⟨[], [], [], .w (.c (.tptr (g v) 0))⟩ :: τ)) : TRun N k all Q (⟨d, .indexAddr T x z, ty, pos, aft, none⟩ :: r) s τ :=
  G.idxT hx (by rw [hz, hm]) (by rw [List.getElem?_map, hv]; rfl) hT hs he hsz hd h
theorem U.idxM {b n : Nat} {eb : TypeId} {sz : Nat} {f : Bool} {rows : List (List TV)} {m : Int} (hx : s.ev x = .w (.c (.mref b))) (hz : s.ev z = iS kd m) (hb : lookH s.heap b = some (.sl eb sz f rows)) (hm : m = (n : Int)) (hi : n < rows.length) (hT : tys.get T = some yT) (hs : yT.shp = .slice e) (he : tys.get e = some ye) (hsz : sz = ye.size) (hd : dstB N d = true) (h : TRun N k all Q r (s.put d (.w (.c (.ptr b n 0)))) (some ⟨[(b, .sl eb sz f rows)], [], [], .w (.c (.ptr b n 0))⟩ :: τ)) : TRun N k all Q (⟨d, .indexAddr T x z, ty, pos, aft, none⟩ :: r) s τ :=
  G.idxM hx (by rw [hz, hm]) hb hi hT hs he hsz hd h
theorem U.idxA {b i off : Nat} {eb : TypeId} {cells : List AV} {n q : Nat} {m : Int} {et : TypeId} (hx : s.ev x = .w (.c (.ptr b i off))) (hz : s.ev z = iS kd m) (hb : lookH s.heap b = some (.bx eb cells)) (hm : m = (n : Int)) (hT : tys.get T = some yT) (hs : yT.shp = .array q et) (he : tys.get et = some ye) (hn : n < q) (hd : dstB N d = true) (h : TRun N k all Q r (s.put d (.w (.c (.ptr b i (off + n * ye.size))))) (some ⟨[(b, .bx eb cells)], [], [], .w (.c (.ptr b i (off + n * ye.size)))⟩ :: τ)) : TRun N k all Q (⟨d, .indexAddr T x z, ty, pos, aft, none⟩ :: r) s τ :=
  G.idxA hx (by rw [hz, hm]) hb hT hs he hn hd h

/-- Conversions that change nothing. -/
theorem U.convI {m : Int} (hx : s.ev x = iS kd m) (hT : (tys.get T).map (·.shp) = some (.int kd)) (hT' : (tys.get T').map (·.shp) = some (.int .i64)) (hw : -9223372036854775808 ≤ m ∧ m ≤ 9223372036854775807) (hd : dstB N d = true) (h : TRun N k all Q r (s.put d (iS .i64 m)) (some ⟨[], [], [], iS .i64 m⟩ :: τ)) : TRun N k all Q (⟨d, .convert T T' x, ty, pos, aft, none⟩ :: r) s τ :=
  G.conv hx hT hT' (by rw [IntKind.wrap_i64]; omega) hd h
theorem U.convU {m : Int} (hx : s.ev x = iS kd m) (hT : (tys.get T).map (·.shp) = some (.int kd)) (hT' : (tys.get T').map (·.shp) = some (.int .u64)) (hw : 0 ≤ m ∧ m ≤ 18446744073709551615) (hd : dstB N d = true) (h : TRun N k all Q r (s.put d (iS .u64 m)) (some ⟨[], [], [], iS .u64 m⟩ :: τ)) : TRun N k all Q (⟨d, .convert T T' x, ty, pos, aft, none⟩ :: r) s τ :=
  G.conv hx hT hT' (by rw [IntKind.wrap_u64]; omega) hd h

/-- A call that hands closed values over and yields a closed value. -/
theorem U.call {f : FuncId} {args : List Operand} {Ts : Array TypeId} {aa : List WV} {t : TV} (hf : FCalls Tryd.prog f [] aa (.w (.c (.v t))) [] []) (ha : argsW [] [] s.ev args = some aa) (hd : dstB N d = true) (h : TRun N k all Q r (s.put d (.w (.c (.v t)))) (some ⟨[], [], [], .w (.c (.v t))⟩ :: τ)) : TRun N k all Q (⟨d, .call { callee := .value (.func f), args := args.toArray, argTypes := Ts }, ty, pos, aft, none⟩ :: r) s τ :=
  G.call true [] [] [] hf ha rfl rfl (by simp) rfl (by simp) rfl (by simp) trivial rfl hd h
/-- A call that also lends a variable. -/
theorem U.call1 {b : Nat} {eb : TypeId} {ts ts' : List TV} {f : FuncId} {args : List Operand} {Ts : Array TypeId} {aa : List WV} {t : TV} (hf : FCalls Tryd.prog f [(eb, ts)] aa (.w (.c (.v t))) [] [(eb, ts')]) (hb : lookH s.heap b = some (.bx eb (ts.map .v))) (ha : argsW [] [b] s.ev args = some aa) (hd : dstB N d = true) (h : TRun N k all Q r (s.eff d ⟨[(b, .bx eb (ts.map .v))], [], [(b, some (.bx eb (ts'.map .v)))], .w (.c (.v t))⟩) (some ⟨[(b, .bx eb (ts.map .v))], [], [(b, some (.bx eb (ts'.map .v)))], .w (.c (.v t))⟩ :: τ)) : TRun N k all Q (⟨d, .call { callee := .value (.func f), args := args.toArray, argTypes := Ts }, ty, pos, aft, none⟩ :: r) s τ :=
  G.call true [] [b] [] hf ha rfl rfl (by simp) rfl (by simp) rfl (by simp) ⟨hb, trivial⟩ rfl hd h
/-- A call that yields a new variable. -/
theorem U.callNew (_ : pickNb s.heap nbs = some nb) {eb : TypeId} {ts : List TV} {f : FuncId} {args : List Operand} {Ts : Array TypeId} {aa : List WV} (hf : FCalls Tryd.prog f [] aa (.w (.c (.ptr 0 0 0))) [.bx eb (ts.map .v)] []) (ha : argsW [] [] s.ev args = some aa) (hw : s.freshB k nb = true) (hd : dstB N d = true) (h : TRun N k all Q r (s.eff d ⟨[], [nb], [(nb, some (.bx eb (ts.map .v)))], .w (.c (.ptr nb 0 0))⟩) (some ⟨[], [nb], [(nb, some (.bx eb (ts.map .v)))], .w (.c (.ptr nb 0 0))⟩ :: τ)) : TRun N k all Q (⟨d, .call { callee := .value (.func f), args := args.toArray, argTypes := Ts }, ty, pos, aft, none⟩ :: r) s τ :=
  G.call true [] [] [nb] hf ha rfl rfl (by simp) rfl (by intro kb hkb; simp only [List.mem_singleton] at hkb; subst hkb; exact exp_bx _ _) rfl (by simp) trivial (by simpa using hw) hd h
/-- A slice of closed rows is cut short. -/
theorem U.sliceTo {hi : Operand} {α : Type} {g : α → List TV} {l : List α} {m : Int} {q : Nat} (hx : s.ev x = tS (l.map g)) (hz : s.ev hi = iS kd m) (hm : m = (q : Int)) (hq : q ≤ l.length) (hT : tys.get T = some yT) (hs : yT.shp = .slice e) (he : tys.get e = some ye) (hsz : ∀ v, (g v).length = ye.size) (hd : dstB N d = true) (h : TRun N k all Q r (s.put d (tS ((l.take q).map g))) (some ⟨[], [], [], tS ((l.take q).map g)⟩ :: τ)) : TRun N k all Q (⟨d, .slice T x none (some hi) none, ty, pos, aft, none⟩ :: r) s τ := by
  have e1 : (((l.map g).drop 0).take (q - 0)) = (l.take q).map g := by simp [List.map_take]
  refine G.sliceT (l := 0) (q := q) hx hT hs he (fun row hrow => by obtain ⟨v, _, rfl⟩ := List.mem_map.1 hrow; exact hsz v) ⟨rfl, ⟨kd, by rw [hz, hm]⟩, Nat.zero_le _, by rw [List.length_map]; exact hq⟩ hd ?_
  rw [e1]
  exact h
/-- A new variable is returned. -/
theorem retP {t b : Nat} {e : TypeId} {cells : List AV} {ts : List TV} (h : lookS s.slots t = .w (.c (.ptr b 0 0))) (hb : lookH s.heap b = some (.bx e cells)) (hc : cells = ts.map .v) : Ret N 0 [.tmp t] (.w (.c (.ptr 0 0 0))) [.bx e (ts.map .v)] [] s := by
  refine ⟨s, .refl s, [.c (.ptr b 0 0)], [b], ⟨h, trivial⟩, ?_, ⟨by rw [← hc]; exact hb, ⟨ts, rfl⟩, trivial⟩, by simp, trivial, rfl⟩
  simp [resSV, SV.ren, WV.ren, AV.ren, expRen]
/-- A struct is returned out of its variable. -/
theorem retC {q T b i off : Nat} {e : TypeId} {cells : List AV} {y : Ty} {l : List TV} {B' : List (TypeId × List TV)} (h : lookS s.slots q = .w (.c (.ptr b i off))) (hb : lookH s.heap b = some (.bx e cells)) (hT : tys.get T = some y) (hc : cut y cells off = some (.agg (l.map .v))) (hr : SV.ren (expRen k []) (.w (.agg (l.map .v))) = .w (.agg (l.map .v))) (hbl : SV.below k (.w (.agg (l.map .v))) = true) (hB : HeapIs s 0 B') : Ret N k [.cell q T] (.w (.agg (l.map .v))) [] B' s :=
  ⟨s, .refl s, [.agg (l.map .v)], [], ⟨⟨b, i, off, e, cells, y, h, hb, fits hT, hc⟩, trivial⟩, hr.symm, trivial, by simpa using List.nodup_range, hB, hbl⟩
/-- Two closed values. -/
theorem ret2 {t t' : Nat} {x x' v v' : TV} {B' : List (TypeId × List TV)} (h : lookS s.slots t = .w (.c (.v x))) (h' : lookS s.slots t' = .w (.c (.v x'))) (hx : x = v) (hx' : x' = v') (hB : HeapIs s 0 B') : Ret N k [.tmp t, .tmp t'] (.tup [.c (.v v), .c (.v v')]) [] B' s :=
  ⟨s, .refl s, [.c (.v x), .c (.v x')], [], ⟨h, h', trivial⟩, by rw [hx, hx']; rfl, trivial, by simpa using List.nodup_range, hB, rfl⟩
/-- A call of a function that yields closed values, in a struct or in a tuple. -/
theorem U.callS {f : FuncId} {args : List Operand} {Ts : Array TypeId} {aa : List WV} {rv : SV} (hf : FCalls Tryd.prog f [] aa rv [] []) (ha : argsW [] [] s.ev args = some aa) (hr : rv.below 0 = true) (hren : rv.ren (callRen [] []) = rv) (hd : dstB N d = true) (h : TRun N k all Q r (s.put d rv) (some ⟨[], [], [], rv⟩ :: τ)) : TRun N k all Q (⟨d, .call { callee := .value (.func f), args := args.toArray, argTypes := Ts }, ty, pos, aft, none⟩ :: r) s τ :=
  G.call true [] [] [] hf ha rfl rfl (by simp) rfl (by simp) hr (by simp) trivial rfl hd (by rw [hren]; exact h)
theorem U.callS1 {b : Nat} {eb : TypeId} {ts ts' : List TV} {f : FuncId} {args : List Operand} {Ts : Array TypeId} {aa : List WV} {rv : SV} (hf : FCalls Tryd.prog f [(eb, ts)] aa rv [] [(eb, ts')]) (hb : lookH s.heap b = some (.bx eb (ts.map .v))) (ha : argsW [] [b] s.ev args = some aa) (hr : rv.below 1 = true) (hren : rv.ren (callRen [b] []) = rv) (hd : dstB N d = true) (h : TRun N k all Q r (s.eff d ⟨[(b, .bx eb (ts.map .v))], [], [(b, some (.bx eb (ts'.map .v)))], rv⟩) (some ⟨[(b, .bx eb (ts.map .v))], [], [(b, some (.bx eb (ts'.map .v)))], rv⟩ :: τ)) : TRun N k all Q (⟨d, .call { callee := .value (.func f), args := args.toArray, argTypes := Ts }, ty, pos, aft, none⟩ :: r) s τ :=
  G.call true [] [b] [] hf ha rfl rfl (by simp) rfl (by simp) hr (by simp) ⟨hb, trivial⟩ rfl hd (by rw [hren]; exact h)
theorem V.condT {c : Operand} {x y : Code} {b : Bool} (hc : s.ev c = bS b) (hb : b = true) (h : VWp N k x Q s) : VWp N k (.cond c x y) Q s := V.cond hc (fun _ => h) fun h' => by rw [hb] at h'; cases h'
theorem V.condF {c : Operand} {x y : Code} {b : Bool} (hc : s.ev c = bS b) (hb : b = false) (h : VWp N k y Q s) : VWp N k (.cond c x y) Q s := V.cond hc (fun h' => by rw [hb] at h'; cases h') fun _ => h
/-- A slice that is nil, as one without elements. -/
theorem retN {t : Nat} {rows : List (List TV)} (h : lookS s.slots t = nS) (hr : rows = []) : Ret N k [.tmp t] (.w (.c (.v (.tree rows)))) [] [] s := by
  subst hr
  exact retF0 h
/-- A copy of a slice that does not change. -/
theorem U.appT (_ : pickNb s.heap nbs = some nb) {α : Type} {g : α → List TV} {l : List α} (hx : s.ev x = nS) (hz' : s.ev z = tS (l.map g)) (hT : tys.get T = some yT) (hs : yT.shp = .slice e) (he : tys.get e = some ye) (hsz : ∀ v, (g v).length = ye.size) (hz : ye.zero.length = ye.size) (h0 : Nat.blt 0 ye.size = true) (hby : Nat.blt 0 ye.bytes = true) (hby' : Nat.ble ye.bytes 128 = true) (hl : l.length < 1000000000000) (hw : s.freshB k nb = true) (hd : dstB N d = true)
    (h : TRun N k all Q r (s.eff d ⟨[], [nb], [(nb, some (.sl e ye.size false (l.map g)))], .w (.c (.mref nb))⟩) (some ⟨[], [nb], [(nb, some (.sl e ye.size false (l.map g)))], .w (.c (.mref nb))⟩ :: τ)) : TRun N k all Q (⟨d, .call { callee := .builtin .append, args := #[x, z], argTypes := #[T, T] }, ty, pos, aft, none⟩ :: r) s τ := by
  refine G.appN nb hx hT hs he hz h0 hby (.tree _ hz' fun row hrow => ?_) trivial ?_ hw hd h
  · obtain ⟨v, _, rfl⟩ := List.mem_map.1 hrow
    exact hsz v
  · have h1 : ye.bytes ≤ 128 := Nat.le_of_ble_eq_true hby'
    rw [List.length_map]
    have h2 : l.length * ye.bytes ≤ l.length * 128 := Nat.mul_le_mul_left _ h1
    omega
/-- A slice of one's own, taken as one that does not change. -/
theorem St.le_tree (s : St) (t b : Nat) {e : TypeId} {sz : Nat} {f : Bool} {rows : List (List TV)} (h : lookS s.slots t = .w (.c (.mref b))) (hb : lookH s.heap b = some (.sl e sz f rows)) : St.le N k s ⟨(t, tS rows) :: s.slots, setH s.heap b (some (.sl e sz true rows))⟩ :=
  (St.le_freeze s b hb).trans (St.le_slot (s := ⟨s.slots, setH s.heap b (some (.sl e sz true rows))⟩) t (x := .c (.mref b)) (y := .c (.v (.tree rows))) h (.c (.froz b e sz rows (by show lookH (setH s.heap b _) b = _; rw [lookH_setH, if_pos rfl]))))
theorem St.le_nil (s : St) (t : Nat) (h : lookS s.slots t = nS) : St.le N k s ⟨(t, tS []) :: s.slots, s.heap⟩ := St.le_slot s t (x := .c (.v .nil)) (y := .c (.v (.tree []))) h (.c .nil)
/-- A call that reads a slice of one's own and yields a bool. -/
theorem U.callO {b : Nat} {eb : TypeId} {sz : Nat} {f' : Bool} {rows : List (List TV)} {v : Bool} {f : FuncId} {args : List Operand} {Ts : Array TypeId} {aa : List WV} (hf : FCalls Tryd.prog f [] aa (bS v) [] []) (hb : lookH s.heap b = some (.sl eb sz f' rows)) (ha : argsW [(b, .sl eb sz f' rows)] [] s.ev args = some aa) (hd : dstB N d = true) (h : TRun N k all Q r (s.put d (bS v)) (some ⟨[(b, .sl eb sz f' rows)], [], [], bS v⟩ :: τ)) : TRun N k all Q (⟨d, .call { callee := .value (.func f), args := args.toArray, argTypes := Ts }, ty, pos, aft, none⟩ :: r) s τ :=
  G.call false [(b, .sl eb sz f' rows)] [] [] hf ha rfl rfl (by simp) rfl (by simp) rfl (fun _ => ⟨by simp, by simp, trivial⟩) ⟨hb, trivial⟩ rfl hd h
end
/-- How much is missing. -/
def intOf : SV → Int
  | .w (.c (.v (.int _ n))) => n
  | _ => 0
def down (t n : Nat) (s : St) : Nat := n - (intOf (lookS s.slots t)).toNat
def iRow (n : Int) : List TV := [.int .i64 n]
end Go.Proofs.YtjfkdjlmajfljaaDoor
