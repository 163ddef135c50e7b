/- The machine's steps, one law for each operation of this program. -/
import Derived.Test.YtjfkdjlmajfljaaDoorTys
import Derived.Test.YtjfkdjlmajfljaaDoorDrawnB
namespace Go.Proofs.YtjfkdjlmajfljaaDoor
open Go.RowKit

/-- What a piece of code may end in. -/
inductive Po where
  | fn (Q : Exit → St → Prop)
  | thn (next : St → Prop) (q : Po)
  | blk (id : Nat) (q : Po)
  | drw (l : List Oper) (s0 : St) (q : Po)
def Po.den : Po → Exit → St → Prop
  | .fn Q => Q
  | .thn next q => thenQ next q.den
  | .blk id q => blockQ id q.den
  | .drw _ _ q => q.den
/-- What the end of a region must say: one that draws its order has its trace checked. -/
def Po.trd (k : Nat) : Po → St → List (Option Eff) → Prop
  | .drw l s0 q, s', τ => drawB l s0 k τ.reverse = true ∧ q.den .normal s'
  | q, s', _ => q.den .normal s'
def Po.plain : Po → Bool
  | .drw _ _ _ => false
  | _ => true
structure Ends (q : Po) (e : Exit) (s : St) : Prop where
  out : q.den e s
structure TRun (N k : Nat) (all : List Oper) (q : Po) (l : List Oper) (s : St) (τ : List (Option Eff)) : Prop where
  out : TR Tryd.prog N k all (q.trd k) l s τ
structure VWp (N k : Nat) (c : Code) (q : Po) (s : St) : Prop where
  out : VW Tryd.prog N k c q.den s

section
variable {N k : Nat} {Q : Po} {s : St} {all r : List Oper} {K : Po} {τ : List (Option Eff)} {d : Option Tmp} {ty : TypeId} {pos : String} {aft : Array Edge} {x y z : Operand} {T T' e : TypeId} {kd : IntKind} {m n : Int} {yT ye : Ty}

theorem G.op {op : Op} {ρ : Eff} (h : OStep Tryd.prog ⟨d, op, ty, pos, aft, none⟩ s.ev ρ) (hn : s.needOk ρ.need) (hw : ρ.new.all (s.freshB k) = true) (hd : dstB N d = true) (h' : TRun N k all K r (s.eff d ρ) (some ρ :: τ)) : TRun N k all K (⟨d, op, ty, pos, aft, none⟩ :: r) s τ := by
  refine ⟨?_⟩
  unfold TR
  exact ⟨ρ, ⟨h, hn, hw, hd⟩, h'.out⟩
theorem fits {t : TypeId} {y : Ty} (h : tys.get t = some y) : TyFits Tryd.prog t y := TyFits.of tysOk h

/-- An operation behind a guard. -/
theorem G.guard {op : Op} {j dg : Nat} {want b : Bool} (hd : (all[j]?).bind (·.dst) = some dg) (hb : lookS s.slots dg = bS b) (hN : dstB N d = true) (h1 : b = want → TRun N k all K (⟨d, op, ty, pos, aft, none⟩ :: r) s τ) (h2 : b ≠ want → TRun N k all K r (s.put d uS) (none :: τ)) : TRun N k all K (⟨d, op, ty, pos, aft, some (j, want)⟩ :: r) s τ := by
  refine ⟨?_⟩
  unfold TR
  refine ⟨dg, hd, .inl ⟨b, hb, fun hbw => ?_, fun hbw => ⟨hN, (h2 hbw).out⟩⟩⟩
  have := (h1 hbw).out
  unfold TR at this
  obtain ⟨ρ, ⟨h3, h4, h5, h6⟩, h7⟩ := this
  exact ⟨ρ, ⟨h3, h4, h5, h6⟩, h7⟩
/-- The guard itself was left out. -/
theorem G.guardU {op : Op} {j dg : Nat} {want : Bool} (hd : (all[j]?).bind (·.dst) = some dg) (hb : lookS s.slots dg = uS) (hN : dstB N d = true) (h2 : TRun N k all K r (s.put d uS) (none :: τ)) : TRun N k all K (⟨d, op, ty, pos, aft, some (j, want)⟩ :: r) s τ := by
  refine ⟨?_⟩
  unfold TR
  exact ⟨dg, hd, .inr ⟨hb, hN, h2.out⟩⟩

theorem G.move {v : SV} (hx : s.ev x = v) (hd : dstB N d = true) (h : TRun N k all K r (s.put d v) (some ⟨[], [], [], v⟩ :: τ)) : TRun N k all K (⟨d, .move x, ty, pos, aft, none⟩ :: r) s τ := by
  subst hx
  exact G.op (.move rfl) trivial rfl hd h
theorem G.assign {v : SV} (hx : s.ev x = v) (hd : dstB N d = true) (h : TRun N k all K r (s.put d v) (some ⟨[], [], [], v⟩ :: τ)) : TRun N k all K (⟨d, .assign x, ty, pos, aft, none⟩ :: r) s τ := by
  subst hx
  exact G.op (.assign rfl) trivial rfl hd h
theorem G.pick {b : Bool} {c : Operand} {v v' : SV} (hc : s.ev c = bS b) (hx : s.ev x = v) (hy : s.ev y = v') (hd : dstB N d = true) (h1 : b = true → TRun N k all K r (s.put d v) (some ⟨[], [], [], v⟩ :: τ)) (h2 : b = false → TRun N k all K r (s.put d v') (some ⟨[], [], [], v'⟩ :: τ)) : TRun N k all K (⟨d, .pick c x y, ty, pos, aft, none⟩ :: r) s τ := by
  subst hx; subst hy
  cases b with
  | true => exact G.op (.pickT rfl hc) trivial rfl hd (h1 rfl)
  | false => exact G.op (.pickF rfl hc) trivial rfl hd (h2 rfl)
/-- A choice between two bools. -/
theorem G.pickB {b p q : Bool} {c : Operand} (hc : s.ev c = bS b) (hx : s.ev x = bS p) (hy : s.ev y = bS q) (hd : dstB N d = true) (h1 : TRun N k all K r (s.put d (bS (if b then p else q))) (some ⟨[], [], [], bS (if b then p else q)⟩ :: τ)) : TRun N k all K (⟨d, .pick c x y, ty, pos, aft, none⟩ :: r) s τ := by
  cases b with
  | true => exact G.op (.pickT rfl hc) trivial rfl hd (by rw [hx]; exact h1)
  | false => exact G.op (.pickF rfl hc) trivial rfl hd (by rw [hy]; exact h1)
theorem G.pickT {b : Bool} {c : Operand} {v : SV} (hb : b = true) (hc : s.ev c = bS b) (hx : s.ev x = v) (hd : dstB N d = true) (h1 : TRun N k all K r (s.put d v) (some ⟨[], [], [], v⟩ :: τ)) : TRun N k all K (⟨d, .pick c x y, ty, pos, aft, none⟩ :: r) s τ := by
  subst hx; subst hb
  exact G.op (.pickT rfl hc) trivial rfl hd h1
theorem G.pickF {b : Bool} {c : Operand} {v : SV} (hb : b = false) (hc : s.ev c = bS b) (hy : s.ev y = v) (hd : dstB N d = true) (h1 : TRun N k all K r (s.put d v) (some ⟨[], [], [], v⟩ :: τ)) : TRun N k all K (⟨d, .pick c x y, ty, pos, aft, none⟩ :: r) s τ := by
  subst hy; subst hb
  exact G.op (.pickF rfl hc) trivial rfl hd h1
theorem G.not {b : Bool} (hx : s.ev x = bS b) (hd : dstB N d = true) (h : TRun N k all K r (s.put d (bS (!b))) (some ⟨[], [], [], bS (!b)⟩ :: τ)) : TRun N k all K (⟨d, .unOp .not T x, ty, pos, aft, none⟩ :: r) s τ := G.op (.not rfl hx) trivial rfl hd h
theorem G.lss (hx : s.ev x = iS kd m) (hy : s.ev y = iS kd n) (hd : dstB N d = true) (h : TRun N k all K r (s.put d (bS (decide (m < n)))) (some ⟨[], [], [], bS (decide (m < n))⟩ :: τ)) : TRun N k all K (⟨d, .binOp .lss T x y T', ty, pos, aft, none⟩ :: r) s τ := G.op (.lss rfl hx hy) trivial rfl hd h
theorem G.leq (hx : s.ev x = iS kd m) (hy : s.ev y = iS kd n) (hd : dstB N d = true) (h : TRun N k all K r (s.put d (bS (decide (m ≤ n)))) (some ⟨[], [], [], bS (decide (m ≤ n))⟩ :: τ)) : TRun N k all K (⟨d, .binOp .leq T x y T', ty, pos, aft, none⟩ :: r) s τ := G.op (.leq rfl hx hy) trivial rfl hd h
theorem G.gtr (hx : s.ev x = iS kd m) (hy : s.ev y = iS kd n) (hd : dstB N d = true) (h : TRun N k all K r (s.put d (bS (decide (n < m)))) (some ⟨[], [], [], bS (decide (n < m))⟩ :: τ)) : TRun N k all K (⟨d, .binOp .gtr T x y T', ty, pos, aft, none⟩ :: r) s τ := G.op (.gtr rfl hx hy) trivial rfl hd h
theorem G.geq (hx : s.ev x = iS kd m) (hy : s.ev y = iS kd n) (hd : dstB N d = true) (h : TRun N k all K r (s.put d (bS (decide (n ≤ m)))) (some ⟨[], [], [], bS (decide (n ≤ m))⟩ :: τ)) : TRun N k all K (⟨d, .binOp .geq T x y T', ty, pos, aft, none⟩ :: r) s τ := G.op (.geq rfl hx hy) trivial rfl hd h
theorem G.eql (hx : s.ev x = iS kd m) (hy : s.ev y = iS kd n) (hd : dstB N d = true) (h : TRun N k all K r (s.put d (bS (decide (m = n)))) (some ⟨[], [], [], bS (decide (m = n))⟩ :: τ)) : TRun N k all K (⟨d, .binOp .eql T x y T', ty, pos, aft, none⟩ :: r) s τ := G.op (.eql rfl hx hy) trivial rfl hd h
theorem G.neq (hx : s.ev x = iS kd m) (hy : s.ev y = iS kd n) (hd : dstB N d = true) (h : TRun N k all K r (s.put d (bS (!decide (m = n)))) (some ⟨[], [], [], bS (!decide (m = n))⟩ :: τ)) : TRun N k all K (⟨d, .binOp .neq T x y T', ty, pos, aft, none⟩ :: r) s τ := G.op (.neq rfl hx hy) trivial rfl hd h
theorem G.eqlB {p q : Bool} (hx : s.ev x = bS p) (hy : s.ev y = bS q) (hT : (tys.get T).map (·.shp) = some .bool) (hd : dstB N d = true) (h : TRun N k all K r (s.put d (bS (p == q))) (some ⟨[], [], [], bS (p == q)⟩ :: τ)) : TRun N k all K (⟨d, .binOp .eql T x y T', ty, pos, aft, none⟩ :: r) s τ := by
  rw [Option.map_eq_some_iff] at hT
  obtain ⟨yy, h1, h2⟩ := hT
  exact G.op (.boolEq ((fits h1).bool h2) rfl hx hy) trivial rfl hd h
theorem G.neqB {p q : Bool} (hx : s.ev x = bS p) (hy : s.ev y = bS q) (hT : (tys.get T).map (·.shp) = some .bool) (hd : dstB N d = true) (h : TRun N k all K r (s.put d (bS (p != q))) (some ⟨[], [], [], bS (p != q)⟩ :: τ)) : TRun N k all K (⟨d, .binOp .neq T x y T', ty, pos, aft, none⟩ :: r) s τ := by
  rw [Option.map_eq_some_iff] at hT
  obtain ⟨yy, h1, h2⟩ := hT
  exact G.op (.boolNe ((fits h1).bool h2) rfl hx hy) trivial rfl hd h
theorem G.add (hx : s.ev x = iS .i64 m) (hy : s.ev y = iS .i64 n) (hb : -9223372036854775808 ≤ m + n ∧ m + n ≤ 9223372036854775807) (hd : dstB N d = true) (h : TRun N k all K r (s.put d (iS .i64 (m + n))) (some ⟨[], [], [], iS .i64 (m + n)⟩ :: τ)) : TRun N k all K (⟨d, .binOp .add T x y T', ty, pos, aft, none⟩ :: r) s τ := G.op (.add rfl hx hy hb) trivial rfl hd h
theorem G.sub (hx : s.ev x = iS .i64 m) (hy : s.ev y = iS .i64 n) (hb : -9223372036854775808 ≤ m - n ∧ m - n ≤ 9223372036854775807) (hd : dstB N d = true) (h : TRun N k all K r (s.put d (iS .i64 (m - n))) (some ⟨[], [], [], iS .i64 (m - n)⟩ :: τ)) : TRun N k all K (⟨d, .binOp .sub T x y T', ty, pos, aft, none⟩ :: r) s τ := G.op (.sub rfl hx hy hb) trivial rfl hd h
theorem G.mul (hx : s.ev x = iS .i64 m) (hy : s.ev y = iS .i64 n) (hb : -9223372036854775808 ≤ m * n ∧ m * n ≤ 9223372036854775807) (hd : dstB N d = true) (h : TRun N k all K r (s.put d (iS .i64 (m * n))) (some ⟨[], [], [], iS .i64 (m * n)⟩ :: τ)) : TRun N k all K (⟨d, .binOp .mul T x y T', ty, pos, aft, none⟩ :: r) s τ := G.op (.mul rfl hx hy hb) trivial rfl hd h
theorem G.quo (hx : s.ev x = iS .i64 m) (hy : s.ev y = iS .i64 n) (h0 : 0 ≤ m) (h1 : 0 < n) (hm : m ≤ 9223372036854775807) (hd : dstB N d = true) (h : TRun N k all K r (s.put d (iS .i64 (m / n))) (some ⟨[], [], [], iS .i64 (m / n)⟩ :: τ)) : TRun N k all K (⟨d, .binOp .quo T x y T', ty, pos, aft, none⟩ :: r) s τ := by
  have e : m.tdiv n = m / n := Int.tdiv_eq_ediv_of_nonneg h0
  have h2 : 0 ≤ m / n := Int.ediv_nonneg h0 (by omega)
  have h3 : m / n ≤ m := Int.ediv_le_self n h0
  have := G.op (N := N) (k := k) (all := all) (K := K) (r := r) (s := s) (τ := τ) (d := d) (ty := ty) (pos := pos) (aft := aft) (.quo (T := T) (T' := T') rfl hx hy (by omega) (by rw [e]; omega)) trivial rfl hd (by rw [e]; exact h)
  exact this
theorem G.rem (hx : s.ev x = iS .i64 m) (hy : s.ev y = iS .i64 n) (h0 : 0 ≤ m) (h1 : 0 < n) (hd : dstB N d = true) (h : TRun N k all K r (s.put d (iS .i64 (m % n))) (some ⟨[], [], [], iS .i64 (m % n)⟩ :: τ)) : TRun N k all K (⟨d, .binOp .rem T x y T', ty, pos, aft, none⟩ :: r) s τ := by
  have e : m.tmod n = m % n := Int.tmod_eq_emod_of_nonneg h0
  have := G.op (N := N) (k := k) (all := all) (K := K) (r := r) (s := s) (τ := τ) (d := d) (ty := ty) (pos := pos) (aft := aft) (.rem (T := T) (T' := T') rfl hx hy (by omega)) trivial rfl hd (by rw [e]; exact h)
  exact this
theorem G.shl (hx : s.ev x = iS .i64 m) (hy : s.ev y = iS kd n) (h0 : 0 ≤ n) (h1 : n ≤ 64) (hb : -9223372036854775808 ≤ m * 2 ^ n.toNat ∧ m * 2 ^ n.toNat ≤ 9223372036854775807) (hd : dstB N d = true) (h : TRun N k all K r (s.put d (iS .i64 (m * 2 ^ n.toNat))) (some ⟨[], [], [], iS .i64 (m * 2 ^ n.toNat)⟩ :: τ)) : TRun N k all K (⟨d, .binOp .shl T x y T', ty, pos, aft, none⟩ :: r) s τ := G.op (.shl rfl hx hy h0 h1 hb) trivial rfl hd h
theorem G.shr {kd' : IntKind} (hx : s.ev x = iS kd m) (hy : s.ev y = iS kd' n) (h0 : 0 ≤ n) (h1 : n ≤ 64) (hk : kd = .i64 ∨ kd = .u64) (hd : dstB N d = true) (h : TRun N k all K r (s.put d (iS kd (m / 2 ^ n.toNat))) (some ⟨[], [], [], iS kd (m / 2 ^ n.toNat)⟩ :: τ)) : TRun N k all K (⟨d, .binOp .shr T x y T', ty, pos, aft, none⟩ :: r) s τ := G.op (.shr rfl hx hy h0 h1 hk) trivial rfl hd h
theorem G.conv {kd' : IntKind} (hx : s.ev x = iS kd m) (hT : (tys.get T).map (·.shp) = some (.int kd)) (hT' : (tys.get T').map (·.shp) = some (.int kd')) (hw : kd'.wrap m = m) (hd : dstB N d = true) (h : TRun N k all K r (s.put d (iS kd' m)) (some ⟨[], [], [], iS kd' m⟩ :: τ)) : TRun N k all K (⟨d, .convert T T' x, ty, pos, aft, none⟩ :: r) s τ := by
  rw [Option.map_eq_some_iff] at hT hT'
  obtain ⟨y1, h1, h2⟩ := hT
  obtain ⟨y2, h3, h4⟩ := hT'
  exact G.op (.conv rfl hx ((fits h1).int h2) ((fits h3).int h4) hw) trivial rfl hd h
theorem G.extract {i : Nat} {l : List WV} {v : WV} (hx : s.ev x = .tup l) (hi : l[i]? = some v) (hd : dstB N d = true) (h : TRun N k all K r (s.put d (.w v)) (some ⟨[], [], [], .w v⟩ :: τ)) : TRun N k all K (⟨d, .extract x i, ty, pos, aft, none⟩ :: r) s τ := G.op (.extract rfl hx hi) trivial rfl hd h

theorem G.loadBx {b i off : Nat} {eb : TypeId} {cells : List AV} {v : WV} (hx : s.ev x = .w (.c (.ptr b i off))) (hb : lookH s.heap b = some (.bx eb cells)) (hT : tys.get T = some yT) (hr : cut yT cells off = some v) (hd : dstB N d = true) (h : TRun N k all K r (s.put d (.w v)) (some ⟨[(b, .bx eb cells)], [], [], .w v⟩ :: τ)) : TRun N k all K (⟨d, .load T x, ty, pos, aft, none⟩ :: r) s τ := G.op (.loadBx rfl hx (fits hT) hr) ⟨hb, trivial⟩ rfl hd h
theorem G.loadT {row : List TV} {off : Nat} {v : WV} (hx : s.ev x = .w (.c (.tptr row off))) (hT : tys.get T = some yT) (hr : cut yT (row.map .v) off = some v) (hd : dstB N d = true) (h : TRun N k all K r (s.put d (.w v)) (some ⟨[], [], [], .w v⟩ :: τ)) : TRun N k all K (⟨d, .load T x, ty, pos, aft, none⟩ :: r) s τ := G.op (.loadT rfl hx (fits hT) hr) trivial rfl hd h
theorem G.loadSl {b i off : Nat} {eb : TypeId} {sz : Nat} {f : Bool} {rows : List (List TV)} {row : List TV} {v : WV} (hx : s.ev x = .w (.c (.ptr b i off))) (hb : lookH s.heap b = some (.sl eb sz f rows)) (hi : rows[i]? = some row) (hT : tys.get T = some yT) (hr : cut yT (row.map .v) off = some v) (hd : dstB N d = true) (h : TRun N k all K r (s.put d (.w v)) (some ⟨[(b, .sl eb sz f rows)], [], [], .w v⟩ :: τ)) : TRun N k all K (⟨d, .load T x, ty, pos, aft, none⟩ :: r) s τ := G.op (.loadSl rfl hx (fits hT) hi hr) ⟨hb, trivial⟩ rfl hd h
/-- An element of a mapped slice. -/
theorem G.loadSlM {α : Type} {g : α → List TV} {l : List α} {b i off : Nat} {eb : TypeId} {sz : Nat} {f : Bool} {v : WV} (hx : s.ev x = .w (.c (.ptr b i off))) (hb : lookH s.heap b = some (.sl eb sz f (l.map g))) (hi : i < l.length) (hT : tys.get T = some yT) (hr : cut yT ((g l[i]).map .v) off = some v) (hd : dstB N d = true) (h : TRun N k all K r (s.put d (.w v)) (some ⟨[(b, .sl eb sz f (l.map g))], [], [], .w v⟩ :: τ)) : TRun N k all K (⟨d, .load T x, ty, pos, aft, none⟩ :: r) s τ :=
  G.loadSl hx hb (by rw [List.getElem?_map, List.getElem?_eq_getElem hi]; rfl) hT hr hd h
theorem G.idxT {rows : List (List TV)} {row : List TV} {n : Nat} (hx : s.ev x = tS rows) (hz : s.ev z = iS kd (n : Int)) (hi : rows[n]? = some row) (hT : tys.get T = some yT) (hs : yT.shp = .slice e) (he : tys.get e = some ye) (hsz : row.length = ye.size) (hd : dstB N d = true) (h : TRun N k all K r (s.put d (.w (.c (.tptr row 0)))) (some ⟨[], [], [], .w (.c (.tptr row 0))⟩ :: τ)) : TRun N k all K (⟨d, .indexAddr T x z, ty, pos, aft, none⟩ :: r) s τ := G.op (.idxT rfl hx hz (fits hT) hs (fits he) hi hsz) trivial rfl hd h
theorem G.idxTM {α : Type} {g : α → List TV} {l : List α} {n : Nat} (hx : s.ev x = tS (l.map g)) (hz : s.ev z = iS kd (n : Int)) (hi : n < l.length) (hT : tys.get T = some yT) (hs : yT.shp = .slice e) (he : tys.get e = some ye) (hsz : (g l[n]).length = ye.size) (hd : dstB N d = true) (h : TRun N k all K r (s.put d (.w (.c (.tptr (g l[n]) 0)))) (some ⟨[], [], [], .w (.c (.tptr (g l[n]) 0))⟩ :: τ)) : TRun N k all K (⟨d, .indexAddr T x z, ty, pos, aft, none⟩ :: r) s τ :=
  G.idxT hx hz (by rw [List.getElem?_map, List.getElem?_eq_getElem hi]; rfl) hT hs he hsz hd h
theorem G.idxM {b : Nat} {eb : TypeId} {sz : Nat} {f : Bool} {rows : List (List TV)} {n : Nat} (hx : s.ev x = .w (.c (.mref b))) (hz : s.ev z = iS kd (n : Int)) (hb : lookH s.heap b = some (.sl eb sz f rows)) (hi : n < rows.length) (hT : tys.get T = some yT) (hs : yT.shp = .slice e) (he : tys.get e = some ye) (hsz : sz = ye.size) (hd : dstB N d = true) (h : TRun N k all K r (s.put d (.w (.c (.ptr b n 0)))) (some ⟨[(b, .sl eb sz f rows)], [], [], .w (.c (.ptr b n 0))⟩ :: τ)) : TRun N k all K (⟨d, .indexAddr T x z, ty, pos, aft, none⟩ :: r) s τ := G.op (.idxM rfl hx hz (fits hT) hs (fits he) hi hsz) ⟨hb, trivial⟩ rfl hd h
theorem G.idxA {b i off : Nat} {eb : TypeId} {cells : List AV} {n m : Nat} {et : TypeId} (hx : s.ev x = .w (.c (.ptr b i off))) (hz : s.ev z = iS kd (n : Int)) (hb : lookH s.heap b = some (.bx eb cells)) (hT : tys.get T = some yT) (hs : yT.shp = .array m et) (he : tys.get et = some ye) (hn : n < m) (hd : dstB N d = true) (h : TRun N k all K r (s.put d (.w (.c (.ptr b i (off + n * ye.size))))) (some ⟨[(b, .bx eb cells)], [], [], .w (.c (.ptr b i (off + n * ye.size)))⟩ :: τ)) : TRun N k all K (⟨d, .indexAddr T x z, ty, pos, aft, none⟩ :: r) s τ := G.op (.idxA rfl hx hz (fits hT) hs (fits he) hn) ⟨hb, trivial⟩ rfl hd h
theorem G.fldBx {b i off j fo nn : Nat} {eb ft : TypeId} {cells : List AV} {l : List (Nat × Nat × TypeId)} (hx : s.ev x = .w (.c (.ptr b i off))) (hb : lookH s.heap b = some (.bx eb cells)) (hT : tys.get T = some yT) (hs : yT.shp = .struct l) (hj : l[j]? = some (fo, nn, ft)) (hn : nn ≠ 0) (hd : dstB N d = true) (h : TRun N k all K r (s.put d (.w (.c (.ptr b i (off + fo))))) (some ⟨[(b, .bx eb cells)], [], [], .w (.c (.ptr b i (off + fo)))⟩ :: τ)) : TRun N k all K (⟨d, .fieldAddr T x j, ty, pos, aft, none⟩ :: r) s τ := G.op (.fldBx rfl hx (fits hT) hs hj hn) ⟨hb, trivial⟩ rfl hd h
theorem G.fldSl {b i off j fo nn : Nat} {eb ft : TypeId} {sz : Nat} {f : Bool} {rows : List (List TV)} {l : List (Nat × Nat × TypeId)} (hx : s.ev x = .w (.c (.ptr b i off))) (hb : lookH s.heap b = some (.sl eb sz f rows)) (hT : tys.get T = some yT) (hs : yT.shp = .struct l) (hj : l[j]? = some (fo, nn, ft)) (hn : nn ≠ 0) (hd : dstB N d = true) (h : TRun N k all K r (s.put d (.w (.c (.ptr b i (off + fo))))) (some ⟨[(b, .sl eb sz f rows)], [], [], .w (.c (.ptr b i (off + fo)))⟩ :: τ)) : TRun N k all K (⟨d, .fieldAddr T x j, ty, pos, aft, none⟩ :: r) s τ := G.op (.fldSl rfl hx (fits hT) hs hj hn) ⟨hb, trivial⟩ rfl hd h
theorem G.fldT {off j fo nn : Nat} {ft : TypeId} {row : List TV} {l : List (Nat × Nat × TypeId)} (hx : s.ev x = .w (.c (.tptr row off))) (hT : tys.get T = some yT) (hs : yT.shp = .struct l) (hj : l[j]? = some (fo, nn, ft)) (hn : nn ≠ 0) (hd : dstB N d = true) (h : TRun N k all K r (s.put d (.w (.c (.tptr row (off + fo))))) (some ⟨[], [], [], .w (.c (.tptr row (off + fo)))⟩ :: τ)) : TRun N k all K (⟨d, .fieldAddr T x j, ty, pos, aft, none⟩ :: r) s τ := G.op (.fldT rfl hx (fits hT) hs hj hn) trivial rfl hd h
theorem G.nilPtr {b i off : Nat} {kb : Blk} (hx : s.ev x = .w (.c (.ptr b i off))) (hb : lookH s.heap b = some kb) (hd : dstB N d = true) (h : TRun N k all K r (s.put d (.w (.c (.ptr b i off)))) (some ⟨[(b, kb)], [], [], .w (.c (.ptr b i off))⟩ :: τ)) : TRun N k all K (⟨d, .nilCheck x, ty, pos, aft, none⟩ :: r) s τ := G.op (.nilPtr rfl hx) ⟨hb, trivial⟩ rfl hd h
theorem G.nilTptr {row : List TV} {off : Nat} (hx : s.ev x = .w (.c (.tptr row off))) (hd : dstB N d = true) (h : TRun N k all K r (s.put d (.w (.c (.tptr row off)))) (some ⟨[], [], [], .w (.c (.tptr row off))⟩ :: τ)) : TRun N k all K (⟨d, .nilCheck x, ty, pos, aft, none⟩ :: r) s τ := G.op (.nilTptr rfl hx) trivial rfl hd h
theorem G.field {j fo nn : Nat} {ft : TypeId} {yf : Ty} {cells : List AV} {l : List (Nat × Nat × TypeId)} {v : WV} (hx : s.ev x = .w (.agg cells)) (hT : tys.get T = some yT) (hs : yT.shp = .struct l) (hj : l[j]? = some (fo, nn, ft)) (hf : tys.get ft = some yf) (hr : cut yf cells fo = some v) (hd : dstB N d = true) (h : TRun N k all K r (s.put d (.w v)) (some ⟨[], [], [], .w v⟩ :: τ)) : TRun N k all K (⟨d, .field T x j, ty, pos, aft, none⟩ :: r) s τ := G.op (.fieldV rfl hx (fits hT) hs hj (fits hf) hr) trivial rfl hd h

theorem G.box (nb : Nat) {v : WV} (hx : s.ev x = .w v) (hok : v.ok = true) (hm : v.cells.any (AV.ment nb) = false) (hw : s.freshB k nb = true) (hd : dstB N d = true) (h : TRun N k all K r (s.eff d ⟨[], [nb], [(nb, some (.bx T v.cells))], .w (.c (.ptr nb 0 0))⟩) (some ⟨[], [nb], [(nb, some (.bx T v.cells))], .w (.c (.ptr nb 0 0))⟩ :: τ)) : TRun N k all K (⟨d, .box T x, ty, pos, aft, none⟩ :: r) s τ := G.op (.box rfl hx hok hm) trivial (by simpa using hw) hd h
theorem G.alloc (nb : Nat) (hT : tys.get T = some yT) (hz : yT.zero.isEmpty = false) (hw : s.freshB k nb = true) (hd : dstB N d = true) (h : TRun N k all K r (s.eff d ⟨[], [nb], [(nb, some (.bx T (yT.zero.map .v)))], .w (.c (.ptr nb 0 0))⟩) (some ⟨[], [nb], [(nb, some (.bx T (yT.zero.map .v)))], .w (.c (.ptr nb 0 0))⟩ :: τ)) : TRun N k all K (⟨d, .alloc T, ty, pos, aft, none⟩ :: r) s τ := G.op (.alloc rfl (fits hT) (by intro e; rw [e] at hz; cases hz)) trivial (by simpa using hw) hd h
theorem G.storeBx {b i off : Nat} {eb : TypeId} {cells : List AV} {v : WV} (hx : s.ev x = .w (.c (.ptr b i off))) (hb : lookH s.heap b = some (.bx eb cells)) (hz : s.ev z = .w v) (hT : tys.get T = some yT) (hok : v.ok = true) (hl : v.cells.length = yT.size) (hle : Nat.ble (off + yT.size) cells.length = true) (hd : dstB N d = true) (h : TRun N k all K r (s.eff d ⟨[(b, .bx eb cells)], [], [(b, some (.bx eb (putAt cells off v.cells)))], SV.any⟩) (some ⟨[(b, .bx eb cells)], [], [(b, some (.bx eb (putAt cells off v.cells)))], SV.any⟩ :: τ)) : TRun N k all K (⟨d, .store T x z, ty, pos, aft, none⟩ :: r) s τ := G.op (.storeBx rfl hx hz (fits hT) hok hl (Nat.le_of_ble_eq_true hle)) ⟨hb, trivial⟩ rfl hd h
theorem G.storeSl {b i off : Nat} {eb : TypeId} {sz : Nat} {rows : List (List TV)} {row : List TV} {v : WV} {vs : List TV} (hx : s.ev x = .w (.c (.ptr b i off))) (hb : lookH s.heap b = some (.sl eb sz false rows)) (hz : s.ev z = .w v) (hv : v.closed = some vs) (hi : rows[i]? = some row) (hT : tys.get T = some yT) (hl : vs.length = yT.size) (hle : off + vs.length ≤ row.length) (hd : dstB N d = true) (h : TRun N k all K r (s.eff d ⟨[(b, .sl eb sz false rows)], [], [(b, some (.sl eb sz false (rows.set i (putAt row off vs))))], SV.any⟩) (some ⟨[(b, .sl eb sz false rows)], [], [(b, some (.sl eb sz false (rows.set i (putAt row off vs))))], SV.any⟩ :: τ)) : TRun N k all K (⟨d, .store T x z, ty, pos, aft, none⟩ :: r) s τ := G.op (.storeSl rfl hx hz (fits hT) hv hi hl hle) ⟨hb, trivial⟩ rfl hd h
theorem G.storeSlM {b i off q : Nat} {eb eq : TypeId} {sz szq : Nat} {fq : Bool} {rows rowsq : List (List TV)} {row : List TV} (hx : s.ev x = .w (.c (.ptr b i off))) (hb : lookH s.heap b = some (.sl eb sz false rows)) (hz : s.ev z = .w (.c (.mref q))) (hq : lookH s.heap q = some (.sl eq szq fq rowsq)) (hi : rows[i]? = some row) (hT : tys.get T = some yT) (hl : yT.size = 1) (hle : off + 1 ≤ row.length) (hne : q ≠ b) (hd : dstB N d = true)
    (h : TRun N k all K r (s.eff d ⟨[(b, .sl eb sz false rows), (q, .sl eq szq fq rowsq)], [], [(q, some (.sl eq szq true rowsq)), (b, some (.sl eb sz false (rows.set i (putAt row off [.tree rowsq]))))], SV.any⟩) (some ⟨[(b, .sl eb sz false rows), (q, .sl eq szq fq rowsq)], [], [(q, some (.sl eq szq true rowsq)), (b, some (.sl eb sz false (rows.set i (putAt row off [.tree rowsq]))))], SV.any⟩ :: τ)) : TRun N k all K (⟨d, .store T x z, ty, pos, aft, none⟩ :: r) s τ := G.op (.storeSlM rfl hx hz (fits hT) hi hl hle hne) ⟨hb, hq, trivial⟩ rfl hd h

theorem G.lenN (hx : s.ev x = nS) (hT : tys.get T = some yT) (hs : yT.shp = .slice e) (hd : dstB N d = true) (h : TRun N k all K r (s.put d (iS .i64 0)) (some ⟨[], [], [], iS .i64 0⟩ :: τ)) : TRun N k all K (⟨d, .call { callee := .builtin .len, args := #[x], argTypes := #[T] }, ty, pos, aft, none⟩ :: r) s τ := G.op (.lenN rfl hx (fits hT) hs) trivial rfl hd h
theorem G.lenT {rows : List (List TV)} (hx : s.ev x = tS rows) (hT : tys.get T = some yT) (hs : yT.shp = .slice e) (hd : dstB N d = true) (h : TRun N k all K r (s.put d (iS .i64 (rows.length : Int))) (some ⟨[], [], [], iS .i64 (rows.length : Int)⟩ :: τ)) : TRun N k all K (⟨d, .call { callee := .builtin .len, args := #[x], argTypes := #[T] }, ty, pos, aft, none⟩ :: r) s τ := G.op (.lenT rfl hx (fits hT) hs) trivial rfl hd h
theorem G.lenTM {α : Type} {g : α → List TV} {l : List α} (hx : s.ev x = tS (l.map g)) (hT : tys.get T = some yT) (hs : yT.shp = .slice e) (hd : dstB N d = true) (h : TRun N k all K r (s.put d (iS .i64 (l.length : Int))) (some ⟨[], [], [], iS .i64 (l.length : Int)⟩ :: τ)) : TRun N k all K (⟨d, .call { callee := .builtin .len, args := #[x], argTypes := #[T] }, ty, pos, aft, none⟩ :: r) s τ := G.lenT hx hT hs hd (by rw [List.length_map]; exact h)
theorem G.lenM {b : Nat} {eb : TypeId} {sz : Nat} {f : Bool} {rows : List (List TV)} (hx : s.ev x = .w (.c (.mref b))) (hb : lookH s.heap b = some (.sl eb sz f rows)) (hT : tys.get T = some yT) (hs : yT.shp = .slice e) (hd : dstB N d = true) (h : TRun N k all K r (s.put d (iS .i64 (rows.length : Int))) (some ⟨[(b, .sl eb sz f rows)], [], [], iS .i64 (rows.length : Int)⟩ :: τ)) : TRun N k all K (⟨d, .call { callee := .builtin .len, args := #[x], argTypes := #[T] }, ty, pos, aft, none⟩ :: r) s τ := G.op (.lenM rfl hx (fits hT) hs) ⟨hb, trivial⟩ rfl hd h
theorem G.lenMM {α : Type} {g : α → List TV} {l : List α} {b : Nat} {eb : TypeId} {sz : Nat} {f : Bool} (hx : s.ev x = .w (.c (.mref b))) (hb : lookH s.heap b = some (.sl eb sz f (l.map g))) (hT : tys.get T = some yT) (hs : yT.shp = .slice e) (hd : dstB N d = true) (h : TRun N k all K r (s.put d (iS .i64 (l.length : Int))) (some ⟨[(b, .sl eb sz f (l.map g))], [], [], iS .i64 (l.length : Int)⟩ :: τ)) : TRun N k all K (⟨d, .call { callee := .builtin .len, args := #[x], argTypes := #[T] }, ty, pos, aft, none⟩ :: r) s τ := G.lenM hx hb hT hs hd (by rw [List.length_map]; exact h)
theorem G.max {Ts : Array TypeId} (hx : s.ev x = iS .i64 m) (hy : s.ev y = iS .i64 n) (hd : dstB N d = true) (h : TRun N k all K r (s.put d (iS .i64 (max m n))) (some ⟨[], [], [], iS .i64 (max m n)⟩ :: τ)) : TRun N k all K (⟨d, .call { callee := .builtin .max, args := #[x, y], argTypes := Ts }, ty, pos, aft, none⟩ :: r) s τ := G.op (.max2 rfl hx hy) trivial rfl hd h
theorem G.min {Ts : Array TypeId} (hx : s.ev x = iS .i64 m) (hy : s.ev y = iS .i64 n) (hd : dstB N d = true) (h : TRun N k all K r (s.put d (iS .i64 (min m n))) (some ⟨[], [], [], iS .i64 (min m n)⟩ :: τ)) : TRun N k all K (⟨d, .call { callee := .builtin .min, args := #[x, y], argTypes := Ts }, ty, pos, aft, none⟩ :: r) s τ := G.op (.min2 rfl hx hy) trivial rfl hd h

theorem G.build {parts : List (Nat × Operand)} {lp : List (Nat × WV)} {l : List (Nat × Nat × TypeId)} {cells : List AV} (hT : tys.get T = some yT) (hs : yT.shp = .struct l) (hz : yT.zero.isEmpty = false) (hnz : l.all (fun x => x.2.1 != 0) = true) (hpa : partsA s.ev parts = some lp) (hr : fillA (placeS l) (yT.zero.map .v) lp = some cells) (hd : dstB N d = true) (h : TRun N k all K r (s.put d (.w (.agg cells))) (some ⟨[], [], [], .w (.agg cells)⟩ :: τ)) : TRun N k all K (⟨d, .build T parts.toArray, ty, pos, aft, none⟩ :: r) s τ := G.op (.build rfl (fits hT) hs (by intro e; rw [e] at hz; cases hz) hnz hpa hr) trivial rfl hd h
theorem G.buildSlice (nb : Nat) {nn : Nat} {parts : List (Nat × Operand)} {lp : List (Nat × WV)} {rows : List (List TV)} (hT : tys.get T = some yT) (hs : yT.shp = .slice e) (he : tys.get e = some ye) (hz : ye.zero.length = ye.size) (h0 : Nat.blt 0 ye.size = true) (hpa : partsA s.ev parts = some lp) (hr : rowsA 0 lp = some rows) (hsz : rows.all (fun row => Nat.beq row.length ye.size) = true) (hn : rows.length = nn) (hc : Nat.ble (nn * ye.size) 16777216 = true) (hw : s.freshB k nb = true) (hd : dstB N d = true) (h : TRun N k all K r (s.eff d ⟨[], [nb], [(nb, some (.sl e ye.size false rows))], .w (.c (.mref nb))⟩) (some ⟨[], [nb], [(nb, some (.sl e ye.size false rows))], .w (.c (.mref nb))⟩ :: τ)) : TRun N k all K (⟨d, .buildSlice T nn parts.toArray, ty, pos, aft, none⟩ :: r) s τ :=
  G.op (.buildSlice rfl (fits hT) hs (fits he) hz (by simpa [Nat.blt_eq] using h0) hpa hr (fun row hrow => Nat.eq_of_beq_eq_true (List.all_eq_true.1 hsz row hrow)) hn (Nat.le_of_ble_eq_true hc)) trivial (by simpa using hw) hd h
theorem G.make (nb : Nat) {kd' : IntKind} {nn : Nat} (hx : s.ev x = iS kd (nn : Int)) (hz' : s.ev z = iS kd' (nn : Int)) (hT : tys.get T = some yT) (hs : yT.shp = .slice e) (he : tys.get e = some ye) (hz : ye.zero.length = ye.size) (h0 : Nat.blt 0 ye.size = true) (hb : ye.bytes * nn ≤ 281474976710656) (hm : nn ≤ 4611686018427387904) (hw : s.freshB k nb = true) (hd : dstB N d = true) (h : TRun N k all K r (s.eff d ⟨[], [nb], [(nb, some (.sl e ye.size false (List.replicate nn ye.zero)))], .w (.c (.mref nb))⟩) (some ⟨[], [nb], [(nb, some (.sl e ye.size false (List.replicate nn ye.zero)))], .w (.c (.mref nb))⟩ :: τ)) : TRun N k all K (⟨d, .makeSlice T x z, ty, pos, aft, none⟩ :: r) s τ :=
  G.op (.make rfl hx hz' (fits hT) hs (fits he) hz (by simpa [Nat.blt_eq] using h0) hb (by simp only [maxLen]; omega)) trivial (by simpa using hw) hd h

theorem G.appN (nb : Nat) {rows : List (List TV)} {need : List (Nat × Blk)} (hx : s.ev x = nS) (hT : tys.get T = some yT) (hs : yT.shp = .slice e) (he : tys.get e = some ye) (hz : ye.zero.length = ye.size) (h0 : Nat.blt 0 ye.size = true) (hby : Nat.blt 0 ye.bytes = true) (hsrc : SrcOf s.ev z ye.size rows need) (hn : s.needOk need) (hb : rows.length * ye.bytes ≤ 140737488355328) (hw : s.freshB k nb = true) (hd : dstB N d = true) (h : TRun N k all K r (s.eff d ⟨need, [nb], [(nb, some (.sl e ye.size false rows))], .w (.c (.mref nb))⟩) (some ⟨need, [nb], [(nb, some (.sl e ye.size false rows))], .w (.c (.mref nb))⟩ :: τ)) : TRun N k all K (⟨d, .call { callee := .builtin .append, args := #[x, z], argTypes := #[T, T] }, ty, pos, aft, none⟩ :: r) s τ :=
  G.op (.appN rfl hx (fits hT) hs (fits he) hz (by simpa [Nat.blt_eq] using h0) (by simpa [Nat.blt_eq] using hby) hsrc hb) hn (by simpa using hw) hd h
theorem G.appM (nb : Nat) {b : Nat} {eb : TypeId} {sz : Nat} {rows rows' : List (List TV)} {need : List (Nat × Blk)} (hx : s.ev x = .w (.c (.mref b))) (hbk : lookH s.heap b = some (.sl eb sz false rows)) (hT : tys.get T = some yT) (hs : yT.shp = .slice eb) (he : tys.get eb = some ye) (hsz : sz = ye.size) (hz : ye.zero.length = ye.size) (h0 : Nat.blt 0 ye.size = true) (hby : Nat.blt 0 ye.bytes = true) (hsrc : SrcOf s.ev z ye.size rows' need) (hn : s.needOk need) (hb : (rows.length + rows'.length) * ye.bytes ≤ 140737488355328) (hw : s.freshB k nb = true) (hd : dstB N d = true)
    (h : TRun N k all K r (s.eff d ⟨(b, .sl eb ye.size false rows) :: need, [nb], [(b, none), (nb, some (.sl eb ye.size false (rows ++ rows')))], .w (.c (.mref nb))⟩) (some ⟨(b, .sl eb ye.size false rows) :: need, [nb], [(b, none), (nb, some (.sl eb ye.size false (rows ++ rows')))], .w (.c (.mref nb))⟩ :: τ)) : TRun N k all K (⟨d, .call { callee := .builtin .append, args := #[x, z], argTypes := #[T, T] }, ty, pos, aft, none⟩ :: r) s τ := by
  subst hsz
  exact G.op (.appM rfl hx (fits hT) hs (fits he) hz (by simpa [Nat.blt_eq] using h0) (by simpa [Nat.blt_eq] using hby) hsrc hb) ⟨hbk, hn⟩ (by simpa using hw) hd h
theorem G.sliceT {lo hi : Option Operand} {rows : List (List TV)} {l q : Nat} (hx : s.ev x = tS rows) (hT : tys.get T = some yT) (hs : yT.shp = .slice e) (he : tys.get e = some ye) (hsz : ∀ row ∈ rows, row.length = ye.size) (hb : Bnd s.ev lo hi rows.length l q) (hd : dstB N d = true) (h : TRun N k all K r (s.put d (tS ((rows.drop l).take (q - l)))) (some ⟨[], [], [], tS ((rows.drop l).take (q - l))⟩ :: τ)) : TRun N k all K (⟨d, .slice T x lo hi none, ty, pos, aft, none⟩ :: r) s τ := G.op (.sliceT rfl hx (fits hT) hs (fits he) hsz hb) trivial rfl hd h
theorem G.sliceM (nb : Nat) {hi : Option Operand} {b : Nat} {sz : Nat} {rows : List (List TV)} {q : Nat} (hx : s.ev x = .w (.c (.mref b))) (hbk : lookH s.heap b = some (.sl e sz false rows)) (hT : tys.get T = some yT) (hs : yT.shp = .slice e) (he : tys.get e = some ye) (hsz : sz = ye.size) (hb : Bnd s.ev none hi rows.length 0 q) (hw : s.freshB k nb = true) (hd : dstB N d = true) (h : TRun N k all K r (s.eff d ⟨[(b, .sl e ye.size false rows)], [nb], [(b, none), (nb, some (.sl e ye.size false (rows.take q)))], .w (.c (.mref nb))⟩) (some ⟨[(b, .sl e ye.size false rows)], [nb], [(b, none), (nb, some (.sl e ye.size false (rows.take q)))], .w (.c (.mref nb))⟩ :: τ)) : TRun N k all K (⟨d, .slice T x none hi none, ty, pos, aft, none⟩ :: r) s τ := by
  subst hsz
  exact G.op (.sliceM rfl hx (fits hT) hs (fits he) hb) ⟨hbk, trivial⟩ (by simpa using hw) hd h
theorem G.call (frz : Bool) (S : List (Nat × Blk)) (L Nw : List Nat) {f : FuncId} {args : List Operand} {Ts : Array TypeId} {B B' : List (TypeId × List TV)} {aa : List WV} {rv : SV} {E : List Blk} (hf : FCalls Tryd.prog f B aa rv E B') (ha : argsW S L s.ev args = some aa) (hl : L.length = B.length) (hS : S.all (fun p => p.2.isSl) = true) (hnd : (L ++ Nw ++ S.map (·.1)).Nodup) (hN : Nw.length = E.length) (hE : ∀ kb ∈ E, kb.exp) (hr : rv.below (B.length + E.length) = true)
    (hsc : frz = false → (∀ x ∈ B', ∀ t ∈ x.2, t.sc) ∧ (∀ kb ∈ E, kb.sc) ∧ rv.sc) (hn : s.needOk (lendNeed S L B)) (hw : Nw.all (s.freshB k) = true) (hd : dstB N d = true) (h : TRun N k all K r (s.eff d ⟨lendNeed S L B, Nw, callUpd frz S L B' Nw E, rv.ren (callRen L Nw)⟩) (some ⟨lendNeed S L B, Nw, callUpd frz S L B' Nw E, rv.ren (callRen L Nw)⟩ :: τ)) : TRun N k all K (⟨d, .call { callee := .value (.func f), args := args.toArray, argTypes := Ts }, ty, pos, aft, none⟩ :: r) s τ :=
  G.op (.call frz Nw rfl hf ha hl hS hnd hN hE hr hsc) hn hw hd h

/-! ### Code -/
theorem Po.trd_plain {q : Po} (h : q.plain = true) (τ : List (Option Eff)) : q.trd k s τ = q.den .normal s := by cases q <;> first | rfl | cases h
theorem G.nil (hp : Q.plain = true) (h : Ends Q .normal s) : TRun N k all Q [] s τ := ⟨by unfold TR; rw [Po.trd_plain hp]; exact h.out⟩
theorem G.nilD {l : List Oper} {s0 : St} (hd : drawB l s0 k τ.reverse = true) (h : Ends Q .normal s) : TRun N k all (.drw l s0 Q) [] s τ := ⟨⟨hd, h.out⟩⟩
theorem V.region {id : Nat} {l : List Oper} (hp : Q.plain = true) (h : TRun N k l Q l s []) : VWp N k (.region id l.toArray false) Q s :=
  ⟨VW.region (by have := h.out; rwa [show Q.trd k = fun s' _ => Q.den .normal s' from funext fun s' => funext fun τ => Po.trd_plain hp τ] at this)⟩
theorem V.drawn {id : Nat} {l : List Oper} (h : TRun N k l (.drw l s Q) l s []) : VWp N k (.region id l.toArray true) Q s := ⟨VW.drawn (by rfl) h.out⟩
theorem V.seq {x y : Code} (h : VWp N k x (.thn (VWp N k y Q) Q) s) : VWp N k (.seq x y) Q s :=
  ⟨VW.seq (VW.mono h.out fun e s hq => by
    cases e with
    | normal => exact (show VWp N k y Q s from hq).out
    | _ => exact hq)⟩
theorem V.cond {c : Operand} {x y : Code} {b : Bool} (hc : s.ev c = bS b) (ht : b = true → VWp N k x Q s) (hf : b = false → VWp N k y Q s) : VWp N k (.cond c x y) Q s := ⟨VW.cond hc (fun h => (ht h).out) (fun h => (hf h).out)⟩
theorem V.skip (h : Ends Q .normal s) : VWp N k .skip Q s := ⟨VW.skip h.out⟩
theorem V.ret (h : Ends Q .ret s) : VWp N k .ret Q s := ⟨VW.ret h.out⟩
theorem V.exit {id : Nat} (h : Ends Q (.exit id) s) : VWp N k (.exit id) Q s := ⟨VW.exit h.out⟩
theorem V.label {l : Nat} (h : Ends Q .normal s) : VWp N k (.label l) Q s := ⟨VW.label h.out⟩
theorem V.block {id : Nat} {c : Code} (h : VWp N k c (.blk id Q) s) : VWp N k (.block id c) Q s := ⟨VW.block h.out⟩
/-- What a round ends in. -/
def Again (N k : Nat) (I : St → Prop) (μ : St → Nat) (s s' : St) : Prop := ∃ s'', St.le N k s' s'' ∧ I s'' ∧ μ s'' < μ s
theorem V.loop {c : Code} (I : St → Prop) (μ : St → Nat) (s0 : St) (h0 : St.le N k s s0) (hI : I s0) (round : ∀ s, I s → VWp N k c (.thn (Again N k I μ s) Q) s) : VWp N k (.loop c) Q s := ⟨VW.loop I μ s0 h0 hI fun s hs => (round s hs).out⟩
/-- Cut a sequence: the first part ends in a state that J knows, or leaves. -/
def Cut (N k : Nat) (J : St → Prop) (s' : St) : Prop := ∃ s'', St.le N k s' s'' ∧ J s''
theorem V.cut {x y : Code} (J : St → Prop) (h : VWp N k x (.thn (Cut N k J) Q) s) (hJ : ∀ s, J s → VWp N k y Q s) : VWp N k (.seq x y) Q s :=
  ⟨VW.seq (VW.mono h.out fun e s hq => by
    cases e with
    | normal => obtain ⟨s'', h1, h2⟩ := (show Cut N k J s from hq); exact VW.weaken h1 (hJ s'' h2).out
    | _ => exact hq)⟩
/-- Say less before the rest. -/
theorem V.weak {c : Code} {s' : St} (h : St.le N k s s') (hv : VWp N k c Q s') : VWp N k c Q s := ⟨VW.weaken h hv.out⟩

theorem E.thnV {next : St → Prop} (h : next s) : Ends (.thn next Q) .normal s := ⟨h⟩
theorem E.thnE {next : St → Prop} {i : Nat} (h : Ends Q (.exit i) s) : Ends (.thn next Q) (.exit i) s := ⟨h.out⟩
theorem E.thnR {next : St → Prop} (h : Ends Q .ret s) : Ends (.thn next Q) .ret s := ⟨h.out⟩
theorem E.blkN {id : Nat} (h : Ends Q .normal s) : Ends (.blk id Q) .normal s := ⟨h.out⟩
theorem E.blkR {id : Nat} (h : Ends Q .ret s) : Ends (.blk id Q) .ret s := ⟨h.out⟩
theorem E.blkE {id : Nat} (h : Ends Q .normal s) : Ends (.blk id Q) (.exit id) s := ⟨by show blockQ id Q.den _ _; simp only [blockQ, if_pos]; exact h.out⟩
theorem E.blkF {i id : Nat} (hn : Nat.beq i id = false) (h : Ends Q (.exit i) s) : Ends (.blk id Q) (.exit i) s := ⟨by
  have : i ≠ id := fun e => by subst e; rw [Nat.beq_refl] at hn; cases hn
  show blockQ id Q.den _ _
  simp only [blockQ, if_neg this]; exact h.out⟩
/-- A state in which a function may return, said less of. -/
structure Ret (N k : Nat) (rs : List ResultVar) (rv : SV) (E : List Blk) (B' : List (TypeId × List TV)) (s : St) : Prop where
  out : ∃ s', St.le N k s s' ∧ RetOk Tryd.prog k rs rv E B' s'
def retW (N k : Nat) (rs : List ResultVar) (rv : SV) (E : List Blk) (B' : List (TypeId × List TV)) : Exit → St → Prop
  | .normal, s => Ret N k rs rv E B' s
  | .ret, s => Ret N k rs rv E B' s
  | _, _ => False
theorem E.retN {rs : List ResultVar} {rv : SV} {E : List Blk} {B' : List (TypeId × List TV)} (h : Ret N k rs rv E B' s) : Ends (.fn (retW N k rs rv E B')) .normal s := ⟨h⟩
theorem E.retR {rs : List ResultVar} {rv : SV} {E : List Blk} {B' : List (TypeId × List TV)} (h : Ret N k rs rv E B' s) : Ends (.fn (retW N k rs rv E B')) .ret s := ⟨h⟩
/-- From the code to the contract. -/
theorem fnOf {f : FuncId} {fn : Func} {code : Code} {B B' : List (TypeId × List TV)} {args : List WV} {rv : SV} {E : List Blk} {rs : List ResultVar} (N : Nat) (hf : Tryd.prog.funcs[f]? = some fn) (hb : fn.body = some code) (hname : (fn.name == "runtime.NumGoroutine") = false) (hN : args.length + (fn.ntmps - args.length) = N) (hrs : fn.results = rs.toArray) (hB : B'.map (·.1) = B.map (·.1)) (hk : B.length = k)
    (h : VWp N k code (.fn (retW N k rs rv E B')) ⟨argSlots 0 args, lentL B⟩) : FCalls Tryd.prog f B args rv E B' := by
  subst hk
  refine FCalls.of N hf hb hname hN hrs hB fun C w a hk hr => wp_mono (h.out C w a hk hr) fun e a' w' ⟨s', h1, h2⟩ => ?_
  have h3 : ∃ s', RetOk Tryd.prog B.length rs rv E B' s' ∧ s'.Rep C N w' a' := by
    cases e with
    | normal => obtain ⟨s'', h4, h5⟩ := (show Ret N _ rs rv E B' s' from h1).out; exact ⟨s'', h5, h4 C w' a' hk h2⟩
    | ret => obtain ⟨s'', h4, h5⟩ := (show Ret N _ rs rv E B' s' from h1).out; exact ⟨s'', h5, h4 C w' a' hk h2⟩
    | _ => exact h1.elim
  obtain ⟨s'', h4, h5⟩ := h3
  cases e with
  | normal => exact ⟨s'', h4, h5⟩
  | ret => exact ⟨s'', h4, h5⟩
  | _ => exact h1.elim

/-! ### Returns -/
theorem ret1 {t : Nat} {x v : TV} {B' : List (TypeId × List TV)} (h : lookS s.slots t = .w (.c (.v x))) (hx : x = v) (hB : HeapIs s 0 B') : Ret N k [.tmp t] (.w (.c (.v v))) [] B' s :=
  ⟨s, .refl s, [.c (.v x)], [], ⟨h, trivial⟩, by rw [hx]; rfl, trivial, by simpa using List.nodup_range, hB, rfl⟩
theorem ret0 {B' : List (TypeId × List TV)} (hB : HeapIs s 0 B') : Ret N k [] (.tup []) [] B' s :=
  ⟨s, .refl s, [], [], trivial, rfl, trivial, by simpa using List.nodup_range, hB, rfl⟩
theorem retM {t b : Nat} {e : TypeId} {sz : Nat} {rows rows' : List (List TV)} {B' : List (TypeId × List TV)} (h : lookS s.slots t = .w (.c (.mref b))) (hb : lookH s.heap b = some (.sl e sz false rows)) (hr : rows = rows') (hk : Nat.ble k b = true) (hB : HeapIs s 0 B') : Ret N k [.tmp t] (.w (.c (.mref k))) [.sl e sz false rows'] B' s := by
  have hkb := Nat.le_of_ble_eq_true hk
  refine ⟨s, .refl s, [.c (.mref b)], [b], ⟨h, trivial⟩, ?_, ⟨by rw [← hr]; exact hb, rfl, trivial⟩, ?_, hB, ?_⟩
  · simp [resSV, SV.ren, WV.ren, AV.ren, expRen]
  · refine List.nodup_append.2 ⟨List.nodup_range, by simp, ?_⟩
    intro a ha c hc
    have := List.mem_range.1 ha
    simp at hc
    omega
  · simp [SV.below, WV.below, AV.below]
/-- A slice of one's own is returned as one that does not change. -/
theorem retF {t b : Nat} {e : TypeId} {sz : Nat} {f : Bool} {rows rows' : List (List TV)} (h : lookS s.slots t = .w (.c (.mref b))) (hb : lookH s.heap b = some (.sl e sz f rows)) (hr : rows = rows') : Ret N k [.tmp t] (.w (.c (.v (.tree rows')))) [] [] s := by
  subst hr
  have h1 : St.le N k s ⟨s.slots, setH s.heap b (some (.sl e sz true rows))⟩ := St.le_freeze s b hb
  have h2 : St.le N k ⟨s.slots, setH s.heap b (some (.sl e sz true rows))⟩ ⟨(t, .w (.c (.v (.tree rows)))) :: s.slots, setH s.heap b (some (.sl e sz true rows))⟩ :=
    St.le_slot (s := ⟨s.slots, setH s.heap b (some (.sl e sz true rows))⟩) t (x := .c (.mref b)) (y := .c (.v (.tree rows))) h (.c (.froz b e sz rows (by show lookH (setH s.heap b _) b = _; rw [lookH_setH, if_pos rfl])))
  exact ⟨_, h1.trans h2, [.c (.v (.tree rows))], [], ⟨by simp [lookS], trivial⟩, rfl, trivial, by simpa using List.nodup_range, trivial, rfl⟩
/-- A slice that is nil is returned as one without elements. -/
theorem retF0 {t : Nat} (h : lookS s.slots t = nS) : Ret N k [.tmp t] (.w (.c (.v (.tree [])))) [] [] s :=
  ⟨_, St.le_slot s t (x := .c (.v .nil)) (y := .c (.v (.tree []))) h (.c .nil), [.c (.v (.tree []))], [], ⟨by simp [lookS], trivial⟩, rfl, trivial, by simpa using List.nodup_range, trivial, rfl⟩

/-! ### Saying less -/
def SubS (l : List (Nat × SV)) : List (Nat × SV) → Prop
  | [] => True
  | (t, v) :: r => lookS l t = v ∧ SubS l r
def SubH (k : Nat) (h : List (Option Blk)) : Nat → List (Option Blk) → Prop
  | _, [] => True
  | b, some x :: r => lookH h b = some x ∧ SubH k h (b + 1) r
  | b, none :: r => Nat.ble k b = true ∧ SubH k h (b + 1) r
theorem SubS.look {l : List (Nat × SV)} : ∀ {m : List (Nat × SV)}, SubS l m → ∀ t, lookS m t = lookS l t ∨ lookS m t = SV.any
  | [], _, _ => .inr rfl
  | (a, v) :: r, h, t => by
    have e : lookS ((a, v) :: r) t = match Nat.beq a t with | true => v | false => lookS r t := rfl
    rw [e]
    cases hb : Nat.beq a t with
    | true => rw [← Nat.eq_of_beq_eq_true hb]; exact .inl h.1.symm
    | false => exact SubS.look h.2 t
theorem St.le_dropAll (h' : List (Option Blk)) : ∀ (n : Nat) (s : St), (∀ b, lookH h' b = lookH s.heap b ∨ (lookH h' b = none ∧ k ≤ b)) → (∀ b, n ≤ b → lookH h' b = lookH s.heap b) → St.le N k s ⟨s.slots, h'⟩
  | 0, s, _, h2 => by
    rintro C w a hk ⟨η, F, hR⟩
    have e : lookH h' = lookH s.heap := funext fun b => h2 b (Nat.zero_le _)
    refine ⟨η, F, hR.size, hR.defers, fun t => ?_, ?_⟩
    · show SRep w F η (lookH h') _ _; rw [e]; exact hR.slots t
    · show HRep C w η F (lookH h'); rw [e]; exact hR.heap
  | n + 1, s, h1, h2 => by
    rcases h1 n with h3 | ⟨h3, h4⟩
    · exact St.le_dropAll h' n s h1 fun b hb => by
        rcases Nat.lt_or_ge n b with h5 | h5
        · exact h2 b h5
        · rw [show b = n by omega]; exact h3
    · refine (St.le_drop s n h4).trans (St.le_dropAll h' n ⟨s.slots, setH s.heap n none⟩ (fun b => ?_) fun b hb => ?_)
      · rw [show (⟨s.slots, setH s.heap n none⟩ : St).heap = setH s.heap n none from rfl, lookH_setH]
        by_cases hbn : b = n
        · rw [if_pos hbn, hbn]; exact .inl h3
        · rw [if_neg hbn]; exact h1 b
      · rw [show (⟨s.slots, setH s.heap n none⟩ : St).heap = setH s.heap n none from rfl, lookH_setH]
        by_cases hbn : b = n
        · rw [if_pos hbn, hbn]; exact h3
        · rw [if_neg hbn]; exact h2 b (by omega)
theorem lookH_len : ∀ (h : List (Option Blk)) (b : Nat), h.length ≤ b → lookH h b = none
  | [], _, _ => rfl
  | _ :: r, 0, h => by simp at h
  | _ :: r, b + 1, h => lookH_len r b (by simpa using h)
theorem SubH.look {h : List (Option Blk)} : ∀ {m : List (Option Blk)} {j : Nat}, SubH k h j m → ∀ i, i < m.length → lookH m i = lookH h (j + i) ∨ (lookH m i = none ∧ k ≤ j + i)
  | some x :: r, j, hs, 0, _ => .inl hs.1.symm
  | none :: r, j, hs, 0, _ => .inr ⟨rfl, Nat.le_of_ble_eq_true hs.1⟩
  | some x :: r, j, hs, i + 1, hi => by
    have := SubH.look hs.2 i (by simpa using hi)
    rwa [show j + 1 + i = j + (i + 1) by omega] at this
  | none :: r, j, hs, i + 1, hi => by
    have := SubH.look hs.2 i (by simpa using hi)
    rwa [show j + 1 + i = j + (i + 1) by omega] at this
/-- A state that is written out, with fewer slots and fewer blocks. -/
theorem St.le_sub {l : List (Nat × SV)} {h : List (Option Blk)} (hs : SubS s.slots l) (hh : SubH k s.heap 0 h) (hl : Nat.ble k h.length = true) : St.le N k s ⟨l, h⟩ := by
  refine (St.le_slots (s := s) hs.look).trans ?_
  refine St.le_dropAll h (Nat.max h.length s.heap.length) ⟨l, s.heap⟩ (fun b => ?_) fun b hb => ?_
  · rcases Nat.lt_or_ge b h.length with hb | hb
    · have := hh.look b hb
      rwa [Nat.zero_add] at this
    · exact .inr ⟨lookH_len h b hb, Nat.le_trans (Nat.le_of_ble_eq_true hl) hb⟩
  · rw [lookH_len h b (Nat.le_trans (Nat.le_max_left _ _) hb), lookH_len _ b (Nat.le_trans (Nat.le_max_right _ _) hb)]
end
#print axioms St.le_sub
end Go.Proofs.YtjfkdjlmajfljaaDoor
