/- The machine's steps, one law for each operation of this program. -/
import Derived.Test.YtgbkhjllbgmdcaaGreatTys
import Derived.Test.YtgbkhjllbgmdcaaGreatMb
import Derived.Laws.StructEq
import Derived.ChangeKeysEq
import Derived.Test.YtgbkhjllbgmdcaaGreatPure
import Derived.Scope
set_option maxRecDepth 20000
namespace Go.Proofs.YtgbkhjllbgmdcaaGreat
open Go.RowKit
inductive Po where
 | fn (Q:Exit→St→Prop)
 | thn (next:St→Prop) (q:Po)
 | blk (id:Nat) (q:Po)
 | drw (l:List Oper) (s0:St) (q:Po)
def Po.den:Po→Exit→St→Prop
 | .fn Q=>Q
 | .thn next q=>thenQ next q.den
 | .blk id q=>blockQ id q.den
 | .drw _ _ q=>q.den
def Po.trd (k:Nat):Po→St→List (Option Eff)→Prop
 | .drw l s0 q,s',τ=>(drawB l s0 k τ.reverse=true∨∃iL iE,drawS iL iE l s0 k τ.reverse=true∧SoftOk Tryz.prog l (itsOf l l τ.reverse) s' iL iE)∧q.den .normal s'
 | q,s',_=>q.den .normal s'
def Po.plain:Po→Bool
 | .drw _ _ _=>false
 | _=>true
structure Ends (q:Po) (e:Exit) (s:St):Prop where
 out:q.den e s
structure TRun (N k:Nat) (all:List Oper) (q:Po) (l:List Oper) (s:St) (τ:List (Option Eff)):Prop where
 out:TR Tryz.prog N k all (q.trd k) l s τ
structure VWp (N k:Nat) (c:Code) (q:Po) (s:St):Prop where
 out:VW Tryz.prog N k c q.den s
section
variable {N k:Nat} {Q:Po} {s:St} {all r:List Oper} {K:Po} {τ:List (Option Eff)} {d:Option Tmp} {ty:TypeId} {pos:String} {aft:Array Edge} {x y z:Operand} {T T' e:TypeId} {kd:IntKind} {m n:Int} {yT ye:Ty}
theorem G.op {op:Op} {ρ:Eff} (h:OStep Tryz.prog ⟨d,op,ty,pos,aft,none⟩ s.ev ρ) (hn:s.needOk ρ.need) (hw:ρ.new.all (s.freshB k)=true) (hd:dstB N d=true) (h':TRun N k all K r (s.eff d ρ) (some ρ::τ)):TRun N k all K (⟨d,op,ty,pos,aft,none⟩::r) s τ:=by
 refine ⟨?_⟩
 unfold TR
 exact ⟨ρ,⟨h,hn,hw,hd⟩,h'.out⟩
theorem fits {t:TypeId} {y:Ty} (h:tys.get t=some y):TyFits Tryz.prog t y:=TyFits.of tysOk h
theorem G.guard {op:Op} {j dg:Nat} {want b:Bool} (hd:(all[j]?).bind (·.dst)=some dg) (hb:lookS s.slots dg=bS b) (hN:dstB N d=true) (h1:b=want→TRun N k all K (⟨d,op,ty,pos,aft,none⟩::r) s τ) (h2:b≠want→TRun N k all K r (s.put d uS) (none::τ)):TRun N k all K (⟨d,op,ty,pos,aft,some (j,want)⟩::r) s τ:=by
 refine ⟨?_⟩
 unfold TR
 refine ⟨dg,hd,.inl ⟨b,hb,fun hbw=>?_,fun hbw=>⟨hN,(h2 hbw).out⟩⟩⟩
 have:=(h1 hbw).out
 unfold TR at this
 obtain ⟨ρ,⟨h3,h4,h5,h6⟩,h7⟩:=this
 exact ⟨ρ,⟨h3,h4,h5,h6⟩,h7⟩
theorem G.guardU {op:Op} {j dg:Nat} {want:Bool} (hd:(all[j]?).bind (·.dst)=some dg) (hb:lookS s.slots dg=uS) (hN:dstB N d=true) (h2:TRun N k all K r (s.put d uS) (none::τ)):TRun N k all K (⟨d,op,ty,pos,aft,some (j,want)⟩::r) s τ:=by
 refine ⟨?_⟩
 unfold TR
 exact ⟨dg,hd,.inr ⟨hb,hN,h2.out⟩⟩
theorem G.pickT {b:Bool} {c:Operand} {v:SV} (hb:b=true) (hc:s.ev c=bS b) (hx:s.ev x=v) (hd:dstB N d=true) (h1:TRun N k all K r (s.put d v) (some ⟨[],[],[],v⟩::τ)):TRun N k all K (⟨d,.pick c x y,ty,pos,aft,none⟩::r) s τ:=by
 subst hx;subst hb
 exact G.op (.pickT rfl hc) trivial rfl hd h1
theorem G.pickF {b:Bool} {c:Operand} {v:SV} (hb:b=false) (hc:s.ev c=bS b) (hy:s.ev y=v) (hd:dstB N d=true) (h1:TRun N k all K r (s.put d v) (some ⟨[],[],[],v⟩::τ)):TRun N k all K (⟨d,.pick c x y,ty,pos,aft,none⟩::r) s τ:=by
 subst hy;subst hb
 exact G.op (.pickF rfl hc) trivial rfl hd h1
theorem G.quo (hx:s.ev x=iS .i64 m) (hy:s.ev y=iS .i64 n) (h0:0≤m) (h1:0<n) (hm:m≤9223372036854775807) (hd:dstB N d=true) (h:TRun N k all K r (s.put d (iS .i64 (m / n))) (some ⟨[],[],[],iS .i64 (m / n)⟩::τ)):TRun N k all K (⟨d,.binOp .quo T x y T',ty,pos,aft,none⟩::r) s τ:=by
 have e:m.tdiv n=m / n:=Int.tdiv_eq_ediv_of_nonneg h0
 have h2:0≤m / n:=Int.ediv_nonneg h0 (by omega)
 have h3:m / n≤m:=Int.ediv_le_self n h0
 have:=G.op (N:=N) (k:=k) (all:=all) (K:=K) (r:=r) (s:=s) (τ:=τ) (d:=d) (ty:=ty) (pos:=pos) (aft:=aft) (.quo (T:=T) (T':=T') rfl hx hy (by omega) (by rw [e];omega)) trivial rfl hd (by rw [e];exact h)
 exact this
theorem G.shr {kd':IntKind} (hx:s.ev x=iS kd m) (hy:s.ev y=iS kd' n) (h0:0≤n) (h1:n≤64) (hk:kd=.i64∨kd=.u64) (hd:dstB N d=true) (h:TRun N k all K r (s.put d (iS kd (m / 2 ^ n.toNat))) (some ⟨[],[],[],iS kd (m / 2 ^ n.toNat)⟩::τ)):TRun N k all K (⟨d,.binOp .shr T x y T',ty,pos,aft,none⟩::r) s τ:=G.op (.shr rfl hx hy h0 h1 hk) trivial rfl hd h
theorem G.conv {kd':IntKind} (hx:s.ev x=iS kd m) (hT:(tys.get T).map (·.shp)=some (.int kd)) (hT':(tys.get T').map (·.shp)=some (.int kd')) (hw:kd'.wrap m=m) (hd:dstB N d=true) (h:TRun N k all K r (s.put d (iS kd' m)) (some ⟨[],[],[],iS kd' m⟩::τ)):TRun N k all K (⟨d,.convert T T' x,ty,pos,aft,none⟩::r) s τ:=by
 rw [Option.map_eq_some_iff] at hT hT'
 obtain ⟨y1,h1,h2⟩:=hT
 obtain ⟨y2,h3,h4⟩:=hT'
 exact G.op (.conv rfl hx ((fits h1).int h2) ((fits h3).int h4) hw) trivial rfl hd h
theorem G.loadBx {b i off:Nat} {eb:TypeId} {cells:List AV} {v:WV} (hx:s.ev x=.w (.c (.ptr b i off))) (hb:lookH s.heap b=some (.bx eb cells)) (hT:tys.get T=some yT) (hr:cut yT cells off=some v) (hd:dstB N d=true) (h:TRun N k all K r (s.put d (.w v)) (some ⟨[(b,.bx eb cells)],[],[],.w v⟩::τ)):TRun N k all K (⟨d,.load T x,ty,pos,aft,none⟩::r) s τ:=G.op (.loadBx rfl hx (fits hT) hr) ⟨hb,trivial⟩ rfl hd h
theorem G.loadSl {b i off:Nat} {eb:TypeId} {sz:Nat} {f:Bool} {rows:List (List TV)} {row:List TV} {v:WV} (hx:s.ev x=.w (.c (.ptr b i off))) (hb:lookH s.heap b=some (.sl eb sz f rows)) (hi:rows[i]?=some row) (hT:tys.get T=some yT) (hr:cut yT (row.map .v) off=some v) (hd:dstB N d=true) (h:TRun N k all K r (s.put d (.w v)) (some ⟨[(b,.sl eb sz f rows)],[],[],.w v⟩::τ)):TRun N k all K (⟨d,.load T x,ty,pos,aft,none⟩::r) s τ:=G.op (.loadSl rfl hx (fits hT) hi hr) ⟨hb,trivial⟩ rfl hd h
theorem G.idxT {rows:List (List TV)} {row:List TV} {n:Nat} (hx:s.ev x=tS rows) (hz:s.ev z=iS kd (n:Int)) (hi:rows[n]?=some row) (hT:tys.get T=some yT) (hs:yT.shp=.slice e) (he:tys.get e=some ye) (hsz:row.length=ye.size) (hd:dstB N d=true) (h:TRun N k all K r (s.put d (.w (.c (.tptr row 0)))) (some ⟨[],[],[],.w (.c (.tptr row 0))⟩::τ)):TRun N k all K (⟨d,.indexAddr T x z,ty,pos,aft,none⟩::r) s τ:=G.op (.idxT rfl hx hz (fits hT) hs (fits he) hi hsz) trivial rfl hd h
theorem G.idxM {b:Nat} {eb:TypeId} {sz:Nat} {f:Bool} {rows:List (List TV)} {n:Nat} (hx:s.ev x=.w (.c (.mref b))) (hz:s.ev z=iS kd (n:Int)) (hb:lookH s.heap b=some (.sl eb sz f rows)) (hi:n<rows.length) (hT:tys.get T=some yT) (hs:yT.shp=.slice e) (he:tys.get e=some ye) (hsz:sz=ye.size) (hd:dstB N d=true) (h:TRun N k all K r (s.put d (.w (.c (.ptr b n 0)))) (some ⟨[(b,.sl eb sz f rows)],[],[],.w (.c (.ptr b n 0))⟩::τ)):TRun N k all K (⟨d,.indexAddr T x z,ty,pos,aft,none⟩::r) s τ:=G.op (.idxM rfl hx hz (fits hT) hs (fits he) hi hsz) ⟨hb,trivial⟩ rfl hd h
theorem G.idxA {b i off:Nat} {eb:TypeId} {cells:List AV} {n m:Nat} {et:TypeId} (hx:s.ev x=.w (.c (.ptr b i off))) (hz:s.ev z=iS kd (n:Int)) (hb:lookH s.heap b=some (.bx eb cells)) (hT:tys.get T=some yT) (hs:yT.shp=.array m et) (he:tys.get et=some ye) (hn:n<m) (hd:dstB N d=true) (h:TRun N k all K r (s.put d (.w (.c (.ptr b i (off+n*ye.size))))) (some ⟨[(b,.bx eb cells)],[],[],.w (.c (.ptr b i (off+n*ye.size)))⟩::τ)):TRun N k all K (⟨d,.indexAddr T x z,ty,pos,aft,none⟩::r) s τ:=G.op (.idxA rfl hx hz (fits hT) hs (fits he) hn) ⟨hb,trivial⟩ rfl hd h
theorem G.storeBx {b i off:Nat} {eb:TypeId} {cells:List AV} {v:WV} (hx:s.ev x=.w (.c (.ptr b i off))) (hb:lookH s.heap b=some (.bx eb cells)) (hz:s.ev z=.w v) (hT:tys.get T=some yT) (hok:v.ok=true) (hl:v.cells.length=yT.size) (hle:Nat.ble (off+yT.size) cells.length=true) (hd:dstB N d=true) (h:TRun N k all K r (s.eff d ⟨[(b,.bx eb cells)],[],[(b,some (.bx eb (putAt cells off v.cells)))],SV.any⟩) (some ⟨[(b,.bx eb cells)],[],[(b,some (.bx eb (putAt cells off v.cells)))],SV.any⟩::τ)):TRun N k all K (⟨d,.store T x z,ty,pos,aft,none⟩::r) s τ:=G.op (.storeBx rfl hx hz (fits hT) hok hl (Nat.le_of_ble_eq_true hle)) ⟨hb,trivial⟩ rfl hd h
theorem G.storeSl {b i off:Nat} {eb:TypeId} {sz:Nat} {rows:List (List TV)} {row:List TV} {v:WV} {vs:List TV} (hx:s.ev x=.w (.c (.ptr b i off))) (hb:lookH s.heap b=some (.sl eb sz false rows)) (hz:s.ev z=.w v) (hv:v.closed=some vs) (hi:rows[i]?=some row) (hT:tys.get T=some yT) (hl:vs.length=yT.size) (hle:off+vs.length≤row.length) (hd:dstB N d=true) (h:TRun N k all K r (s.eff d ⟨[(b,.sl eb sz false rows)],[],[(b,some (.sl eb sz false (rows.set i (putAt row off vs))))],SV.any⟩) (some ⟨[(b,.sl eb sz false rows)],[],[(b,some (.sl eb sz false (rows.set i (putAt row off vs))))],SV.any⟩::τ)):TRun N k all K (⟨d,.store T x z,ty,pos,aft,none⟩::r) s τ:=G.op (.storeSl rfl hx hz (fits hT) hv hi hl hle) ⟨hb,trivial⟩ rfl hd h
theorem G.lenT {rows:List (List TV)} (hx:s.ev x=tS rows) (hT:tys.get T=some yT) (hs:yT.shp=.slice e) (hd:dstB N d=true) (h:TRun N k all K r (s.put d (iS .i64 (rows.length:Int))) (some ⟨[],[],[],iS .i64 (rows.length:Int)⟩::τ)):TRun N k all K (⟨d,.call {callee:=.builtin .len,args:=#[x],argTypes:=#[T]},ty,pos,aft,none⟩::r) s τ:=G.op (.lenT rfl hx (fits hT) hs) trivial rfl hd h
theorem G.lenTM {α:Type} {g:α→List TV} {l:List α} (hx:s.ev x=tS (l.map g)) (hT:tys.get T=some yT) (hs:yT.shp=.slice e) (hd:dstB N d=true) (h:TRun N k all K r (s.put d (iS .i64 (l.length:Int))) (some ⟨[],[],[],iS .i64 (l.length:Int)⟩::τ)):TRun N k all K (⟨d,.call {callee:=.builtin .len,args:=#[x],argTypes:=#[T]},ty,pos,aft,none⟩::r) s τ:=G.lenT hx hT hs hd (by rw [List.length_map];exact h)
theorem G.lenM {b:Nat} {eb:TypeId} {sz:Nat} {f:Bool} {rows:List (List TV)} (hx:s.ev x=.w (.c (.mref b))) (hb:lookH s.heap b=some (.sl eb sz f rows)) (hT:tys.get T=some yT) (hs:yT.shp=.slice e) (hd:dstB N d=true) (h:TRun N k all K r (s.put d (iS .i64 (rows.length:Int))) (some ⟨[(b,.sl eb sz f rows)],[],[],iS .i64 (rows.length:Int)⟩::τ)):TRun N k all K (⟨d,.call {callee:=.builtin .len,args:=#[x],argTypes:=#[T]},ty,pos,aft,none⟩::r) s τ:=G.op (.lenM rfl hx (fits hT) hs) ⟨hb,trivial⟩ rfl hd h
theorem G.lenMM {α:Type} {g:α→List TV} {l:List α} {b:Nat} {eb:TypeId} {sz:Nat} {f:Bool} (hx:s.ev x=.w (.c (.mref b))) (hb:lookH s.heap b=some (.sl eb sz f (l.map g))) (hT:tys.get T=some yT) (hs:yT.shp=.slice e) (hd:dstB N d=true) (h:TRun N k all K r (s.put d (iS .i64 (l.length:Int))) (some ⟨[(b,.sl eb sz f (l.map g))],[],[],iS .i64 (l.length:Int)⟩::τ)):TRun N k all K (⟨d,.call {callee:=.builtin .len,args:=#[x],argTypes:=#[T]},ty,pos,aft,none⟩::r) s τ:=G.lenM hx hb hT hs hd (by rw [List.length_map];exact h)
theorem G.max {Ts:Array TypeId} (hx:s.ev x=iS .i64 m) (hy:s.ev y=iS .i64 n) (hd:dstB N d=true) (h:TRun N k all K r (s.put d (iS .i64 (max m n))) (some ⟨[],[],[],iS .i64 (max m n)⟩::τ)):TRun N k all K (⟨d,.call {callee:=.builtin .max,args:=#[x,y],argTypes:=Ts},ty,pos,aft,none⟩::r) s τ:=G.op (.max2 rfl hx hy) trivial rfl hd h
theorem G.min {Ts:Array TypeId} (hx:s.ev x=iS .i64 m) (hy:s.ev y=iS .i64 n) (hd:dstB N d=true) (h:TRun N k all K r (s.put d (iS .i64 (min m n))) (some ⟨[],[],[],iS .i64 (min m n)⟩::τ)):TRun N k all K (⟨d,.call {callee:=.builtin .min,args:=#[x,y],argTypes:=Ts},ty,pos,aft,none⟩::r) s τ:=G.op (.min2 rfl hx hy) trivial rfl hd h
theorem G.appN (nb:Nat) {rows:List (List TV)} {need:List (Nat × Blk)} (hx:s.ev x=nS) (hT:tys.get T=some yT) (hs:yT.shp=.slice e) (he:tys.get e=some ye) (hz:ye.zero.length=ye.size) (h0:Nat.blt 0 ye.size=true) (hby:Nat.blt 0 ye.bytes=true) (hsrc:SrcOf s.ev z ye.size rows need) (hn:s.needOk need) (hb:rows.length*ye.bytes≤140737488355328) (hw:s.freshB k nb=true) (hd:dstB N d=true) (h:TRun N k all K r (s.eff d ⟨need,[nb],[(nb,some (.sl e ye.size false rows))],.w (.c (.mref nb))⟩) (some ⟨need,[nb],[(nb,some (.sl e ye.size false rows))],.w (.c (.mref nb))⟩::τ)):TRun N k all K (⟨d,.call {callee:=.builtin .append,args:=#[x,z],argTypes:=#[T,T]},ty,pos,aft,none⟩::r) s τ:=
 G.op (.appN rfl hx (fits hT) hs (fits he) hz (by simpa [Nat.blt_eq] using h0) (by simpa [Nat.blt_eq] using hby) hsrc hb) hn (by simpa using hw) hd h
theorem G.appM (nb:Nat) {b:Nat} {eb:TypeId} {sz:Nat} {rows rows':List (List TV)} {need:List (Nat × Blk)} (hx:s.ev x=.w (.c (.mref b))) (hbk:lookH s.heap b=some (.sl eb sz false rows)) (hT:tys.get T=some yT) (hs:yT.shp=.slice eb) (he:tys.get eb=some ye) (hsz:sz=ye.size) (hz:ye.zero.length=ye.size) (h0:Nat.blt 0 ye.size=true) (hby:Nat.blt 0 ye.bytes=true) (hsrc:SrcOf s.ev z ye.size rows' need) (hn:s.needOk need) (hb:(rows.length+rows'.length)*ye.bytes≤140737488355328) (hw:s.freshB k nb=true) (hd:dstB N d=true)
 (h:TRun N k all K r (s.eff d ⟨(b,.sl eb ye.size false rows)::need,[nb],[(b,none),(nb,some (.sl eb ye.size false (rows++rows')))],.w (.c (.mref nb))⟩) (some ⟨(b,.sl eb ye.size false rows)::need,[nb],[(b,none),(nb,some (.sl eb ye.size false (rows++rows')))],.w (.c (.mref nb))⟩::τ)):TRun N k all K (⟨d,.call {callee:=.builtin .append,args:=#[x,z],argTypes:=#[T,T]},ty,pos,aft,none⟩::r) s τ:=by
 subst hsz
 exact G.op (.appM rfl hx (fits hT) hs (fits he) hz (by simpa [Nat.blt_eq] using h0) (by simpa [Nat.blt_eq] using hby) hsrc hb) ⟨hbk,hn⟩ (by simpa using hw) hd h
theorem G.sliceT {lo hi:Option Operand} {rows:List (List TV)} {l q:Nat} (hx:s.ev x=tS rows) (hT:tys.get T=some yT) (hs:yT.shp=.slice e) (he:tys.get e=some ye) (hsz:∀row∈rows,row.length=ye.size) (hb:Bnd s.ev lo hi rows.length l q) (hd:dstB N d=true) (h:TRun N k all K r (s.put d (tS ((rows.drop l).take (q- l)))) (some ⟨[],[],[],tS ((rows.drop l).take (q- l))⟩::τ)):TRun N k all K (⟨d,.slice T x lo hi none,ty,pos,aft,none⟩::r) s τ:=G.op (.sliceT rfl hx (fits hT) hs (fits he) hsz hb) trivial rfl hd h
theorem G.call (frz:Bool) (S:List (Nat × Blk)) (L Nw:List Nat) {f:FuncId} {args:List Operand} {Ts:Array TypeId} {B B':List (TypeId × List TV)} {aa:List WV} {rv:SV} {E:List Blk} (hf:FCalls Tryz.prog f B aa rv E B') (ha:argsW S L s.ev args=some aa) (hl:L.length=B.length) (hS:S.all (fun p=>p.2.isSl)=true) (hnd:(L++Nw++S.map (·.1)).Nodup) (hN:Nw.length=E.length) (hE:∀kb∈E,kb.exp) (hr:rv.below (B.length+E.length)=true)
 (hsc:frz=false→(∀x∈B',∀t∈x.2,t.sc)∧(∀kb∈E,kb.sc)∧rv.sc) (hn:s.needOk (lendNeed S L B)) (hw:Nw.all (s.freshB k)=true) (hd:dstB N d=true) (h:TRun N k all K r (s.eff d ⟨lendNeed S L B,Nw,callUpd frz S L B' Nw E,rv.ren (callRen L Nw)⟩) (some ⟨lendNeed S L B,Nw,callUpd frz S L B' Nw E,rv.ren (callRen L Nw)⟩::τ)):TRun N k all K (⟨d,.call {callee:=.value (.func f),args:=args.toArray,argTypes:=Ts},ty,pos,aft,none⟩::r) s τ:=
 G.op (.call frz Nw rfl hf ha hl hS hnd hN hE hr hsc) hn hw hd h
theorem G.callI (frz:Bool) (S:List (Nat × Blk)) (L Nw:List Nat) {f:FuncId} {z:Operand} {caps:List Cap} {args:List Operand} {Ts:Array TypeId} {B B':List (TypeId × List TV)} {aa ca:List WV} {rv:SV} {E:List Blk} (hz:s.ev z=.w (.c (.clo f caps))) (hf:FCalls Tryz.prog f B (aa++ca) rv E B') (ha:argsW S L s.ev args=some aa) (hca:capsW L caps=some ca) (hl:L.length=B.length) (hS:S.all (fun p=>p.2.isSl)=true) (hnd:(L++Nw++S.map (·.1)).Nodup) (hN:Nw.length=E.length) (hE:∀kb∈E,kb.exp) (hr:rv.below (B.length+E.length)=true)
 (hsc:frz=false→(∀x∈B',∀t∈x.2,t.sc)∧(∀kb∈E,kb.sc)∧rv.sc) (hn:s.needOk (lendNeed S L B)) (hw:Nw.all (s.freshB k)=true) (hd:dstB N d=true) (h:TRun N k all K r (s.eff d ⟨lendNeed S L B,Nw,callUpd frz S L B' Nw E,rv.ren (callRen L Nw)⟩) (some ⟨lendNeed S L B,Nw,callUpd frz S L B' Nw E,rv.ren (callRen L Nw)⟩::τ)):TRun N k all K (⟨d,.call {callee:=.value z,args:=args.toArray,argTypes:=Ts},ty,pos,aft,none⟩::r) s τ:=
 G.op (.callI frz Nw rfl hz hf ha hca hl hS hnd hN hE hr hsc) hn hw hd h
theorem Po.trd_plain {q:Po} (h:q.plain=true) (τ:List (Option Eff)):q.trd k s τ=q.den .normal s:=by cases q<;>first| rfl| cases h
theorem G.nil (hp:Q.plain=true) (h:Ends Q .normal s):TRun N k all Q [] s τ:=⟨by unfold TR;rw [Po.trd_plain hp];exact h.out⟩
theorem G.nilD {l:List Oper} {s0:St} (hd:drawB l s0 k τ.reverse=true) (h:Ends Q .normal s):TRun N k all (.drw l s0 Q) [] s τ:=⟨⟨.inl hd,h.out⟩⟩
theorem V.region {id:Nat} {l:List Oper} (hp:Q.plain=true) (h:TRun N k l Q l s []):VWp N k (.region id l.toArray false) Q s:=
 ⟨VW.region (by have:=h.out;rwa [show Q.trd k=fun s' _=>Q.den .normal s' from funext fun s'=>funext fun τ=>Po.trd_plain hp τ] at this)⟩
theorem V.drawn {id:Nat} {l:List Oper} (h:TRun N k l (.drw l s Q) l s []):VWp N k (.region id l.toArray true) Q s:=⟨VW.drawn (by rfl) h.out⟩
theorem V.seq {x y:Code} (h:VWp N k x (.thn (VWp N k y Q) Q) s):VWp N k (.seq x y) Q s:=
 ⟨VW.seq (VW.mono h.out fun e s hq=>by
  cases e with
  | normal=>exact (show VWp N k y Q s from hq).out
  | _=>exact hq)⟩
theorem V.cond {c:Operand} {x y:Code} {b:Bool} (hc:s.ev c=bS b) (ht:b=true→VWp N k x Q s) (hf:b=false→VWp N k y Q s):VWp N k (.cond c x y) Q s:=⟨VW.cond hc (fun h=>(ht h).out) (fun h=>(hf h).out)⟩
theorem V.skip (h:Ends Q .normal s):VWp N k .skip Q s:=⟨VW.skip h.out⟩
theorem V.ret (h:Ends Q .ret s):VWp N k .ret Q s:=⟨VW.ret h.out⟩
theorem V.exit {id:Nat} (h:Ends Q (.exit id) s):VWp N k (.exit id) Q s:=⟨VW.exit h.out⟩
theorem V.block {id:Nat} {c:Code} (h:VWp N k c (.blk id Q) s):VWp N k (.block id c) Q s:=⟨VW.block h.out⟩
theorem V.weak {c:Code} {s':St} (h:St.le N k s s') (hv:VWp N k c Q s'):VWp N k c Q s:=⟨VW.weaken h hv.out⟩
theorem E.thnV {next:St→Prop} (h:next s):Ends (.thn next Q) .normal s:=⟨h⟩
theorem E.thnE {next:St→Prop} {i:Nat} (h:Ends Q (.exit i) s):Ends (.thn next Q) (.exit i) s:=⟨h.out⟩
theorem E.thnR {next:St→Prop} (h:Ends Q .ret s):Ends (.thn next Q) .ret s:=⟨h.out⟩
theorem E.blkN {id:Nat} (h:Ends Q .normal s):Ends (.blk id Q) .normal s:=⟨h.out⟩
theorem E.blkR {id:Nat} (h:Ends Q .ret s):Ends (.blk id Q) .ret s:=⟨h.out⟩
theorem E.blkE {id:Nat} (h:Ends Q .normal s):Ends (.blk id Q) (.exit id) s:=⟨by show blockQ id Q.den _ _;simp only [blockQ,if_pos];exact h.out⟩
theorem E.blkF {i id:Nat} (hn:Nat.beq i id=false) (h:Ends Q (.exit i) s):Ends (.blk id Q) (.exit i) s:=⟨by
 have:i≠id:=fun e=>by subst e;rw [Nat.beq_refl] at hn;cases hn
 show blockQ id Q.den _ _
 simp only [blockQ,if_neg this];exact h.out⟩
structure Ret (N k:Nat) (rs:List ResultVar) (rv:SV) (E:List Blk) (B':List (TypeId × List TV)) (s:St):Prop where
 out:∃s',St.le N k s s'∧RetOk Tryz.prog k rs rv E B' s'
def retW (N k:Nat) (rs:List ResultVar) (rv:SV) (E:List Blk) (B':List (TypeId × List TV)):Exit→St→Prop
 | .normal,s=>Ret N k rs rv E B' s
 | .ret,s=>Ret N k rs rv E B' s
 | _,_=>False
theorem E.retN {rs:List ResultVar} {rv:SV} {E:List Blk} {B':List (TypeId × List TV)} (h:Ret N k rs rv E B' s):Ends (.fn (retW N k rs rv E B')) .normal s:=⟨h⟩
theorem E.retR {rs:List ResultVar} {rv:SV} {E:List Blk} {B':List (TypeId × List TV)} (h:Ret N k rs rv E B' s):Ends (.fn (retW N k rs rv E B')) .ret s:=⟨h⟩
theorem fnOf {f : FuncId} {fn : Func} {code : Code} {B B' : List (TypeId × List TV)} {args : List WV} {rv : SV} {E : List Blk} {rs : List ResultVar} (N : Nat) (hf : Tryz.prog.funcs[f]? = some fn) (hb : fn.body = some code) (hname : (fn.name == "runtime.NumGoroutine") = false) (hN : args.length + (fn.ntmps - args.length) = N) (hrs : fn.results = rs.toArray) (hB : B'.map (·.1) = B.map (·.1)) (hk : B.length = k) (hlk : lkB B = true) (hlk' : lkB B' = true)
 (h:VWp N k code (.fn (retW N k rs rv E B')) ⟨argSlots 0 args,lentL B⟩):FCalls Tryz.prog f B args rv E B':=by
 subst hk
 refine FCalls.of N hf hb hname hN hrs hB (LkOk.of hlk) (LkOk.of hlk') fun C w a hk hr=>wp_mono (h.out C w a hk hr) fun e a' w' ⟨s',h1,h2⟩=>?_
 have h3:∃s',RetOk Tryz.prog B.length rs rv E B' s'∧s'.Rep C N w' a':=by
  cases e with
  | normal=>obtain ⟨s'',h4,h5⟩:=(show Ret N _ rs rv E B' s' from h1).out;exact ⟨s'',h5,h4 C w' a' hk h2⟩
  | ret=>obtain ⟨s'',h4,h5⟩:=(show Ret N _ rs rv E B' s' from h1).out;exact ⟨s'',h5,h4 C w' a' hk h2⟩
  | _=>exact h1.elim
 obtain ⟨s'',h4,h5⟩:=h3
 cases e with
 | normal=>exact ⟨s'',h4,h5⟩
 | ret=>exact ⟨s'',h4,h5⟩
 | _=>exact h1.elim
theorem retM {t b:Nat} {e:TypeId} {sz:Nat} {rows rows':List (List TV)} {B':List (TypeId × List TV)} (h:lookS s.slots t=.w (.c (.mref b))) (hb:lookH s.heap b=some (.sl e sz false rows)) (hr:rows=rows') (hk:Nat.ble k b=true) (hB:HeapIs s 0 B'):Ret N k [.tmp t] (.w (.c (.mref k))) [.sl e sz false rows'] B' s:=by
 have hkb:=Nat.le_of_ble_eq_true hk
 refine ⟨s,.refl s,[.c (.mref b)],[b],⟨h,trivial⟩,?_,⟨by rw [←hr];exact hb,rfl,trivial⟩,?_,hB,?_⟩
 ·simp [resSV,SV.ren,WV.ren,AV.ren,expRen]
 ·refine List.nodup_append.2 ⟨List.nodup_range,by simp,?_⟩
  intro a ha c hc
  have:=List.mem_range.1 ha
  simp at hc
  omega
 ·simp [SV.below,WV.below,AV.below]
theorem retF0 {t:Nat} (h:lookS s.slots t=nS):Ret N k [.tmp t] (.w (.c (.v (.tree [])))) [] [] s:=
 ⟨_,St.le_slot s t (x:=.c (.v .nil)) (y:=.c (.v (.tree []))) h (.c .nil),[.c (.v (.tree []))],[],⟨by simp [lookS],trivial⟩,rfl,trivial,by simpa using List.nodup_range,trivial,rfl⟩
def SubS (l:List (Nat × SV)):List (Nat × SV)→Prop
 | []=>True
 | (t,v)::r=>lookS l t=v∧SubS l r
def SubH (k:Nat) (h:List (Option Blk)):Nat→List (Option Blk)→Prop
 | _,[]=>True
 | b,some x::r=>lookH h b=some x∧SubH k h (b+1) r
 | b,none::r=>Nat.ble k b=true∧SubH k h (b+1) r
theorem SubS.look {l:List (Nat × SV)}:∀{m:List (Nat × SV)},SubS l m→∀t,lookS m t=lookS l t∨lookS m t=SV.any
 | [],_,_=> .inr rfl
 | (a,v)::r,h,t=>by
   have e:lookS ((a,v)::r) t=match Nat.beq a t with| true=>v| false=>lookS r t:=rfl
   rw [e]
   cases hb:Nat.beq a t with
   | true=>rw [←Nat.eq_of_beq_eq_true hb];exact .inl h.1.symm
   | false=>exact SubS.look h.2 t
theorem St.le_dropAll (h':List (Option Blk)):∀(n:Nat) (s:St),(∀b,lookH h' b=lookH s.heap b∨(lookH h' b=none∧k≤b))→(∀b,n≤b→lookH h' b=lookH s.heap b)→St.le N k s ⟨s.slots,h'⟩
 | 0,s,_,h2=>by
   rintro C w a hk ⟨η,F,hR⟩
   have e:lookH h'=lookH s.heap:=funext fun b=>h2 b (Nat.zero_le _)
   refine ⟨η,F,hR.size,hR.defers,fun t=>?_,?_⟩
   ·show SRep w F η (lookH h') _ _;rw [e];exact hR.slots t
   ·show HRep C w η F (lookH h');rw [e];exact hR.heap
 | n+1,s,h1,h2=>by
   rcases h1 n with h3| ⟨h3,h4⟩
   ·exact St.le_dropAll h' n s h1 fun b hb=>by
     rcases Nat.lt_or_ge n b with h5| h5
     ·exact h2 b h5
     ·rw [show b=n by omega];exact h3
   ·refine (St.le_drop s n h4).trans (St.le_dropAll h' n ⟨s.slots,setH s.heap n none⟩ (fun b=>?_) fun b hb=>?_)
    ·rw [show (⟨s.slots,setH s.heap n none⟩:St).heap=setH s.heap n none from rfl,lookH_setH]
     by_cases hbn:b=n
     ·rw [if_pos hbn,hbn];exact .inl h3
     ·rw [if_neg hbn];exact h1 b
    ·rw [show (⟨s.slots,setH s.heap n none⟩:St).heap=setH s.heap n none from rfl,lookH_setH]
     by_cases hbn:b=n
     ·rw [if_pos hbn,hbn];exact h3
     ·rw [if_neg hbn];exact h2 b (by omega)
theorem lookH_len:∀(h:List (Option Blk)) (b:Nat),h.length≤b→lookH h b=none
 | [],_,_=>rfl
 | _::r,0,h=>by simp at h
 | _::r,b+1,h=>lookH_len r b (by simpa using h)
theorem SubH.look {h:List (Option Blk)}:∀{m:List (Option Blk)} {j:Nat},SubH k h j m→∀i,i<m.length→lookH m i=lookH h (j+i)∨(lookH m i=none∧k≤j+i)
 | some x::r,j,hs,0,_=> .inl hs.1.symm
 | none::r,j,hs,0,_=> .inr ⟨rfl,Nat.le_of_ble_eq_true hs.1⟩
 | some x::r,j,hs,i+1,hi=>by
   have:=SubH.look hs.2 i (by simpa using hi)
   rwa [show j+1+i=j+(i+1) by omega] at this
 | none::r,j,hs,i+1,hi=>by
   have:=SubH.look hs.2 i (by simpa using hi)
   rwa [show j+1+i=j+(i+1) by omega] at this
theorem St.le_sub {l:List (Nat × SV)} {h:List (Option Blk)} (hs:SubS s.slots l) (hh:SubH k s.heap 0 h) (hl:Nat.ble k h.length=true):St.le N k s ⟨l,h⟩:=by
 refine (St.le_slots (s:=s) hs.look).trans ?_
 refine St.le_dropAll h (Nat.max h.length s.heap.length) ⟨l,s.heap⟩ (fun b=>?_) fun b hb=>?_
 ·rcases Nat.lt_or_ge b h.length with hb| hb
  ·have:=hh.look b hb
   rwa [Nat.zero_add] at this
  ·exact .inr ⟨lookH_len h b hb,Nat.le_trans (Nat.le_of_ble_eq_true hl) hb⟩
 ·rw [lookH_len h b (Nat.le_trans (Nat.le_max_left _ _) hb),lookH_len _ b (Nat.le_trans (Nat.le_max_right _ _) hb)]
end
end Go.Proofs.YtgbkhjllbgmdcaaGreat
namespace Go.Proofs.YtgbkhjllbgmdcaaGreat
open Go.RowKit
abbrev Out:=Option (SV × List (Nat × Blk) × Prop)
def okS (v:SV):Out:=some (v,[],True)
def normS:SV→Out
 | .w (.c (.v (.int k n)))=>okS (iS k n)
 | .w (.c (.v (.bool b)))=>okS (bS b)
 | .w (.c (.v .nil))=>okS nS
 | .w (.c (.v (.tree rows)))=>okS (tS rows)
 | .w (.c (.mref b))=>okS (.w (.c (.mref b)))
 | .w (.c (.ptr b i o))=>okS (.w (.c (.ptr b i o)))
 | .w (.c (.view b i o))=>okS (.w (.c (.view b i o)))
 | .w (.c (.tptr row o))=>okS (.w (.c (.tptr row o)))
 | .w (.c .one)=>okS (.w (.c .one))
 | .w (.c .any)=>okS (.w (.c .any))
 | .w (.c (.v .nilf))=>okS (.w (.c (.v .nilf)))
 | .w (.c (.v .nilm))=>okS (.w (.c (.v .nilm)))
 | .w (.c (.v (.mp l)))=>okS (.w (.c (.v (.mp l))))
 | .w (.c (.v (.lk l)))=>okS (.w (.c (.v (.lk l))))
 | .w (.c (.clo f l))=>okS (.w (.c (.clo f l)))
 | .w (.agg l)=>okS (.w (.agg l))
 | .tup l=>okS (.tup l)
theorem normS_eq {x v:SV} {need:List (Nat × Blk)} {p:Prop} (h:normS x=some (v,need,p)):v=x∧need=[]:=by
 unfold normS at h
 split at h<;>(simp only [okS,Option.some.injEq,Prod.mk.injEq] at h;exact ⟨h.1.symm,h.2.1.symm⟩)
def binF (op:BinOp) (k:IntKind) (m n:Int):Out:=
 match op with
 | .lss=>okS (bS (decide (m<n)))
 | .leq=>okS (bS (decide (m≤n)))
 | .gtr=>okS (bS (decide (n<m)))
 | .geq=>okS (bS (decide (n≤m)))
 | .eql=>okS (bS (decide (m=n)))
 | .neq=>okS (bS (!decide (m=n)))
 | .add=>match k with
   | .i64=>some (iS .i64 (m+n),[], -9223372036854775808≤m+n∧m+n≤9223372036854775807)
   | _=>none
 | .sub=>match k with
   | .i64=>some (iS .i64 (m- n),[], -9223372036854775808≤m- n∧m- n≤9223372036854775807)
   | _=>none
 | .mul=>match k with
   | .i64=>some (iS .i64 (m*n),[], -9223372036854775808≤m*n∧m*n≤9223372036854775807)
   | _=>none
 | .quo=>match k with
   | .i64=>some (iS .i64 (m / n),[],0≤m∧0<n∧m≤9223372036854775807)
   | _=>none
 | .rem=>match k with
   | .i64=>some (iS .i64 (m % n),[],0≤m∧0<n)
   | _=>none
 | _=>none
def stepF (s:St):Op→Out
 | .move x=>normS (s.ev x)
 | .assign x=>normS (s.ev x)
 | .unOp .not _ x=>match s.ev x with
   | .w (.c (.v (.bool b)))=>okS (bS (!b))
   | _=>none
 | .binOp op T x y _=>match s.ev x,s.ev y with
   | .w (.c (.v (.int k m))),.w (.c (.v (.int k' n)))=>match k,k' with
     | .i64,.i64=>binF op .i64 m n
     | .u64,.u64=>binF op .u64 m n
     | .u8,.u8=>binF op .u8 m n
     | _,_=>none
   | .w (.c (.v (.bool p))),.w (.c (.v (.bool q)))=>match (tys.get T).map (·.shp),op with
     | some Shp.bool,.eql=>okS (bS (p==q))
     | some Shp.bool,.neq=>okS (bS (p !=q))
     | _,_=>none
   | _,_=>none
 | .load T x=>match s.ev x,tys.get T with
   | .w (.c (.tptr row off)),some y=>match cut y (row.map .v) off with
     | some v=>okS (.w v)
     | none=>none
   | .w (.c (.ptr b _ off)),some y=>match lookH s.heap b with
     | some (.bx e cells)=>match cut y cells off with
       | some v=>some (.w v,[(b,.bx e cells)],True)
       | none=>none
     | _=>none
   | _,_=>none
 | .fieldAddr T x j=>match tys.get T with
   | some y=>match y.shp with
     | .struct l=>match l[j]? with
       | some (fo,nn,_)=>match Nat.beq nn 0 with
         | true=>none
         | false=>match s.ev x with
           | .w (.c (.tptr row off))=>okS (.w (.c (.tptr row (off+fo))))
           | .w (.c (.ptr b i off))=>match lookH s.heap b with
             | some kb=>some (.w (.c (.ptr b i (off+fo))),[(b,kb)],True)
             | none=>none
           | _=>none
       | none=>none
     | _=>none
   | none=>none
 | .nilCheck x=>match s.ev x with
   | .w (.c (.tptr row off))=>okS (.w (.c (.tptr row off)))
   | .w (.c (.ptr b i off))=>match lookH s.heap b with
     | some kb=>some (.w (.c (.ptr b i off)),[(b,kb)],True)
     | none=>none
   | _=>none
 | .extract x i=>match s.ev x with
   | .tup l=>match l[i]? with
     | some v=>normS (.w v)
     | none=>none
   | _=>none
 | _=>none
section
variable {N k:Nat} {Q:Po} {s:St} {all r:List Oper} {τ:List (Option Eff)} {d:Option Tmp} {ty:TypeId} {pos:String} {aft:Array Edge} {x y z:Operand}
theorem okS_eq {v v':SV} {need:List (Nat × Blk)} {p:Prop} (h:okS v=some (v',need,p)):v'=v∧need=[]:=by
 simp only [okS,Option.some.injEq,Prod.mk.injEq] at h
 exact ⟨h.1.symm,h.2.1.symm⟩
theorem binF_ok {o:Oper} {ev:Operand→SV} {op:BinOp} {T T':TypeId} {kd:IntKind} {m n:Int} {v:SV} {need:List (Nat × Blk)} {p:Prop} (ho:o.op=.binOp op T x y T') (hx:ev x=iS kd m) (hy:ev y=iS kd n) (h:binF op kd m n=some (v,need,p)) (hp:p):OStep Tryz.prog o ev ⟨need,[],[],v⟩∧need=[]:=by
 unfold binF at h
 cases op<;>first| contradiction| skip
 case lss=>obtain ⟨rfl,rfl⟩:=okS_eq h;exact ⟨.lss ho hx hy,rfl⟩
 case leq=>obtain ⟨rfl,rfl⟩:=okS_eq h;exact ⟨.leq ho hx hy,rfl⟩
 case gtr=>obtain ⟨rfl,rfl⟩:=okS_eq h;exact ⟨.gtr ho hx hy,rfl⟩
 case geq=>obtain ⟨rfl,rfl⟩:=okS_eq h;exact ⟨.geq ho hx hy,rfl⟩
 case eql=>obtain ⟨rfl,rfl⟩:=okS_eq h;exact ⟨.eql ho hx hy,rfl⟩
 case neq=>obtain ⟨rfl,rfl⟩:=okS_eq h;exact ⟨.neq ho hx hy,rfl⟩
 case add=>
  cases kd<;>first| contradiction| skip
  simp only [Option.some.injEq,Prod.mk.injEq] at h
  obtain ⟨rfl,rfl,rfl⟩:=h
  exact ⟨.add ho hx hy hp,rfl⟩
 case sub=>
  cases kd<;>first| contradiction| skip
  simp only [Option.some.injEq,Prod.mk.injEq] at h
  obtain ⟨rfl,rfl,rfl⟩:=h
  exact ⟨.sub ho hx hy hp,rfl⟩
 case mul=>
  cases kd<;>first| contradiction| skip
  simp only [Option.some.injEq,Prod.mk.injEq] at h
  obtain ⟨rfl,rfl,rfl⟩:=h
  exact ⟨.mul ho hx hy hp,rfl⟩
 case quo=>
  cases kd<;>first| contradiction| skip
  simp only [Option.some.injEq,Prod.mk.injEq] at h
  obtain ⟨rfl,rfl,rfl⟩:=h
  obtain ⟨h0,h1,hm⟩:=hp
  have e:m.tdiv n=m / n:=Int.tdiv_eq_ediv_of_nonneg h0
  have h2:0≤m / n:=Int.ediv_nonneg h0 (by omega)
  have h3:m / n≤m:=Int.ediv_le_self n h0
  have:=OStep.quo (P:=Tryz.prog) ho hx hy (by omega) (by rw [e];omega)
  rw [e] at this
  exact ⟨this,rfl⟩
 case rem=>
  cases kd<;>first| contradiction| skip
  simp only [Option.some.injEq,Prod.mk.injEq] at h
  obtain ⟨rfl,rfl,rfl⟩:=h
  obtain ⟨h0,h1⟩:=hp
  have e:m.tmod n=m % n:=Int.tmod_eq_emod_of_nonneg h0
  have:=OStep.rem (P:=Tryz.prog) ho hx hy (by omega)
  rw [e] at this
  exact ⟨this,rfl⟩
theorem stepF_ok {o:Oper} {op:Op} {v:SV} {need:List (Nat × Blk)} {p:Prop} (ho:o.op=op) (h:stepF s op=some (v,need,p)) (hp:p):OStep Tryz.prog o s.ev ⟨need,[],[],v⟩∧s.needOk need:=by
 unfold stepF at h
 split at h
 ·obtain ⟨rfl,rfl⟩:=normS_eq h;exact ⟨.move ho,trivial⟩
 ·obtain ⟨rfl,rfl⟩:=normS_eq h;exact ⟨.assign ho,trivial⟩
 ·split at h
  ·rename_i hx;obtain ⟨rfl,rfl⟩:=okS_eq h;exact ⟨.not ho hx,trivial⟩
  ·cases h
 ·split at h
  ·rename_i hx hy
   split at h<;>first
    | (obtain ⟨h1,rfl⟩:=binF_ok ho hx hy h hp;exact ⟨h1,trivial⟩)
    | cases h
  ·rename_i hx hy
   split at h
   ·rename_i hT
    rw [Option.map_eq_some_iff] at hT
    obtain ⟨yy,h1,h2⟩:=hT
    obtain ⟨rfl,rfl⟩:=okS_eq h
    exact ⟨.boolEq ((fits h1).bool h2) ho hx hy,trivial⟩
   ·rename_i hT
    rw [Option.map_eq_some_iff] at hT
    obtain ⟨yy,h1,h2⟩:=hT
    obtain ⟨rfl,rfl⟩:=okS_eq h
    exact ⟨.boolNe ((fits h1).bool h2) ho hx hy,trivial⟩
   ·cases h
  ·cases h
 ·split at h
  ·rename_i hx hT
   split at h
   ·rename_i hc
    obtain ⟨rfl,rfl⟩:=okS_eq h
    exact ⟨.loadT ho hx (fits hT) hc,trivial⟩
   ·cases h
  ·rename_i hx hT
   split at h
   ·rename_i hb
    split at h
    ·rename_i hc
     simp only [Option.some.injEq,Prod.mk.injEq] at h
     obtain ⟨rfl,rfl,rfl⟩:=h
     exact ⟨.loadBx ho hx (fits hT) hc,hb,trivial⟩
    ·cases h
   ·cases h
  ·cases h
 ·split at h
  ·rename_i hT
   split at h
   ·rename_i hs
    split at h
    ·rename_i hj
     split at h
     ·cases h
     ·rename_i hnn
      have hn0:∀{q:Nat},Nat.beq q 0=false→q≠0:=fun h e=>by subst e;cases h
      split at h
      ·rename_i hx
       obtain ⟨rfl,rfl⟩:=okS_eq h
       exact ⟨.fldT ho hx (fits hT) hs hj (hn0 hnn),trivial⟩
      ·rename_i hx
       split at h
       ·rename_i kb hb
        simp only [Option.some.injEq,Prod.mk.injEq] at h
        obtain ⟨rfl,rfl,rfl⟩:=h
        cases kb with
        | sl e sz f rows=>exact ⟨.fldSl ho hx (fits hT) hs hj (hn0 hnn),hb,trivial⟩
        | bx e cells=>exact ⟨.fldBx ho hx (fits hT) hs hj (hn0 hnn),hb,trivial⟩
        | gh Φ=>exact ⟨.fldGh ho hx (fits hT) hs hj (hn0 hnn),hb,trivial⟩
       ·cases h
      ·cases h
    ·cases h
   ·cases h
  ·cases h
 ·split at h
  ·rename_i hx;obtain ⟨rfl,rfl⟩:=okS_eq h;exact ⟨.nilTptr ho hx,trivial⟩
  ·rename_i hx
   split at h
   ·rename_i hb
    simp only [Option.some.injEq,Prod.mk.injEq] at h
    obtain ⟨rfl,rfl,rfl⟩:=h
    exact ⟨.nilPtr ho hx,hb,trivial⟩
   ·cases h
  ·cases h
 ·split at h
  ·rename_i hx
   split at h
   ·rename_i hi
    obtain ⟨rfl,rfl⟩:=normS_eq h
    exact ⟨.extract ho hx hi,trivial⟩
   ·cases h
  ·cases h
 ·cases h
theorem G.step {op:Op} {v:SV} {need:List (Nat × Blk)} {p:Prop} (h:stepF s op=some (v,need,p)) (hd:dstB N d=true) (hp:p) (h':TRun N k all Q r (s.put d v) (some ⟨need,[],[],v⟩::τ)):TRun N k all Q (⟨d,op,ty,pos,aft,none⟩::r) s τ:=by
 obtain ⟨h1,h2⟩:=stepF_ok (o:=⟨d,op,ty,pos,aft,none⟩) rfl h hp
 exact G.op h1 h2 rfl hd h'
theorem G.guardT {op:Op} {j dg:Nat} {want b:Bool} (hd:(all[j]?).bind (·.dst)=some dg) (hb:lookS s.slots dg=bS b) (hbw:b=want) (hN:dstB N d=true) (h1:TRun N k all Q (⟨d,op,ty,pos,aft,none⟩::r) s τ):TRun N k all Q (⟨d,op,ty,pos,aft,some (j,want)⟩::r) s τ:=G.guard hd hb hN (fun _=>h1) fun h=>absurd hbw h
theorem G.guardF {op:Op} {j dg:Nat} {want b:Bool} (hd:(all[j]?).bind (·.dst)=some dg) (hb:lookS s.slots dg=bS b) (hbw:b= !want) (hN:dstB N d=true) (h2:TRun N k all Q r (s.put d uS) (none::τ)):TRun N k all Q (⟨d,op,ty,pos,aft,some (j,want)⟩::r) s τ:=G.guard hd hb hN (fun h=>by rw [h] at hbw;cases want<;>cases hbw) fun _=>h2
end
end Go.Proofs.YtgbkhjllbgmdcaaGreat
namespace Go.Proofs.YtgbkhjllbgmdcaaGreat
open Go.RowKit
def pickNb:List (Option Blk)→List Nat→Option Nat
 | [],n::_=>some n
 | _::h,_::ns=>pickNb h ns
 | _,[]=>none
def nbs:List Nat:=[0,1,2,3,4,5,6,7,8,9,10,11,12,13,14,15,16,17,18,19,20,21,22,23,24,25,26,27,28,29,30,31,32,33,34,35,36,37,38,39,40,41,42,43,44,45,46,47,48,49,50]
theorem exp_bx (e:TypeId) (ts:List TV):(Blk.bx e (ts.map .v)).exp:=⟨ts,rfl⟩
section
variable {N k nb:Nat} {Q:Po} {s:St} {all r:List Oper} {τ:List (Option Eff)} {d:Option Tmp} {ty:TypeId} {pos:String} {aft:Array Edge} {x y z:Operand} {T T' e:TypeId} {kd:IntKind} {yT ye:Ty}
theorem U.idxT {α:Type} {g:α→List TV} {l:List α} {v:α} {m:Int} {n:Nat} (hx:s.ev x=tS (l.map g)) (hz:s.ev z=iS kd m) (hm:m=(n:Int)) (hv:l[n]?=some v) (hT:tys.get T=some yT) (hs:yT.shp=.slice e) (he:tys.get e=some ye) (hsz:(g v).length=ye.size) (hd:dstB N d=true) (h:TRun N k all Q r (s.put d (.w (.c (.tptr (g v) 0)))) (some ⟨[],[],[],.w (.c (.tptr (g v) 0))⟩::τ)):TRun N k all Q (⟨d,.indexAddr T x z,ty,pos,aft,none⟩::r) s τ:=
 G.idxT hx (by rw [hz,hm]) (by rw [List.getElem?_map,hv];rfl) hT hs he hsz hd h
theorem U.idxM {b n:Nat} {eb:TypeId} {sz:Nat} {f:Bool} {rows:List (List TV)} {m:Int} (hx:s.ev x=.w (.c (.mref b))) (hz:s.ev z=iS kd m) (hb:lookH s.heap b=some (.sl eb sz f rows)) (hm:m=(n:Int)) (hi:n<rows.length) (hT:tys.get T=some yT) (hs:yT.shp=.slice e) (he:tys.get e=some ye) (hsz:sz=ye.size) (hd:dstB N d=true) (h:TRun N k all Q r (s.put d (.w (.c (.ptr b n 0)))) (some ⟨[(b,.sl eb sz f rows)],[],[],.w (.c (.ptr b n 0))⟩::τ)):TRun N k all Q (⟨d,.indexAddr T x z,ty,pos,aft,none⟩::r) s τ:=
 G.idxM hx (by rw [hz,hm]) hb hi hT hs he hsz hd h
theorem U.convI {m:Int} (hx:s.ev x=iS kd m) (hT:(tys.get T).map (·.shp)=some (.int kd)) (hT':(tys.get T').map (·.shp)=some (.int .i64)) (hw: -9223372036854775808≤m∧m≤9223372036854775807) (hd:dstB N d=true) (h:TRun N k all Q r (s.put d (iS .i64 m)) (some ⟨[],[],[],iS .i64 m⟩::τ)):TRun N k all Q (⟨d,.convert T T' x,ty,pos,aft,none⟩::r) s τ:=
 G.conv hx hT hT' (by rw [IntKind.wrap_i64];omega) hd h
theorem U.convU {m:Int} (hx:s.ev x=iS kd m) (hT:(tys.get T).map (·.shp)=some (.int kd)) (hT':(tys.get T').map (·.shp)=some (.int .u64)) (hw:0≤m∧m≤18446744073709551615) (hd:dstB N d=true) (h:TRun N k all Q r (s.put d (iS .u64 m)) (some ⟨[],[],[],iS .u64 m⟩::τ)):TRun N k all Q (⟨d,.convert T T' x,ty,pos,aft,none⟩::r) s τ:=
 G.conv hx hT hT' (by rw [IntKind.wrap_u64];omega) hd h
theorem U.callNew (_:pickNb s.heap nbs=some nb) {eb:TypeId} {ts:List TV} {f:FuncId} {args:List Operand} {Ts:Array TypeId} {aa:List WV} (hf:FCalls Tryz.prog f [] aa (.w (.c (.ptr 0 0 0))) [.bx eb (ts.map .v)] []) (ha:argsW [] [] s.ev args=some aa) (hw:s.freshB k nb=true) (hd:dstB N d=true) (h:TRun N k all Q r (s.eff d ⟨[],[nb],[(nb,some (.bx eb (ts.map .v)))],.w (.c (.ptr nb 0 0))⟩) (some ⟨[],[nb],[(nb,some (.bx eb (ts.map .v)))],.w (.c (.ptr nb 0 0))⟩::τ)):TRun N k all Q (⟨d,.call {callee:=.value (.func f),args:=args.toArray,argTypes:=Ts},ty,pos,aft,none⟩::r) s τ:=
 G.call true [] [] [nb] hf ha rfl rfl (by simp) rfl (by intro kb hkb;simp only [List.mem_singleton] at hkb;subst hkb;exact exp_bx _ _) rfl (by simp) trivial (by simpa using hw) hd h
theorem V.condT {c:Operand} {x y:Code} {b:Bool} (hc:s.ev c=bS b) (hb:b=true) (h:VWp N k x Q s):VWp N k (.cond c x y) Q s:=V.cond hc (fun _=>h) fun h'=>by rw [hb] at h';cases h'
theorem V.condF {c:Operand} {x y:Code} {b:Bool} (hc:s.ev c=bS b) (hb:b=false) (h:VWp N k y Q s):VWp N k (.cond c x y) Q s:=V.cond hc (fun h'=>by rw [hb] at h';cases h') fun _=>h
theorem retN {t:Nat} {rows:List (List TV)} (h:lookS s.slots t=nS) (hr:rows=[]):Ret N k [.tmp t] (.w (.c (.v (.tree rows)))) [] [] s:=by
 subst hr
 exact retF0 h
theorem U.appT (_:pickNb s.heap nbs=some nb) {α:Type} {g:α→List TV} {l:List α} (hx:s.ev x=nS) (hz':s.ev z=tS (l.map g)) (hT:tys.get T=some yT) (hs:yT.shp=.slice e) (he:tys.get e=some ye) (hsz:∀v,(g v).length=ye.size) (hz:ye.zero.length=ye.size) (h0:Nat.blt 0 ye.size=true) (hby:Nat.blt 0 ye.bytes=true) (hby':Nat.ble ye.bytes 128=true) (hl:l.length<1000000000000) (hw:s.freshB k nb=true) (hd:dstB N d=true)
 (h:TRun N k all Q r (s.eff d ⟨[],[nb],[(nb,some (.sl e ye.size false (l.map g)))],.w (.c (.mref nb))⟩) (some ⟨[],[nb],[(nb,some (.sl e ye.size false (l.map g)))],.w (.c (.mref nb))⟩::τ)):TRun N k all Q (⟨d,.call {callee:=.builtin .append,args:=#[x,z],argTypes:=#[T,T]},ty,pos,aft,none⟩::r) s τ:=by
 refine G.appN nb hx hT hs he hz h0 hby (.tree _ hz' fun row hrow=>?_) trivial ?_ hw hd h
 ·obtain ⟨v,_,rfl⟩:=List.mem_map.1 hrow
  exact hsz v
 ·have h1:ye.bytes≤128:=Nat.le_of_ble_eq_true hby'
  rw [List.length_map]
  have h2:l.length*ye.bytes≤l.length*128:=Nat.mul_le_mul_left _ h1
  omega
theorem St.le_tree (s:St) (t b:Nat) {e:TypeId} {sz:Nat} {f:Bool} {rows:List (List TV)} (h:lookS s.slots t=.w (.c (.mref b))) (hb:lookH s.heap b=some (.sl e sz f rows)):St.le N k s ⟨(t,tS rows)::s.slots,setH s.heap b (some (.sl e sz true rows))⟩:=
 (St.le_freeze s b hb).trans (St.le_slot (s:=⟨s.slots,setH s.heap b (some (.sl e sz true rows))⟩) t (x:=.c (.mref b)) (y:=.c (.v (.tree rows))) h (.c (.froz b e sz rows (by show lookH (setH s.heap b _) b=_;rw [lookH_setH,if_pos rfl]))))
theorem St.le_nil (s:St) (t:Nat) (h:lookS s.slots t=nS):St.le N k s ⟨(t,tS [])::s.slots,s.heap⟩:=St.le_slot s t (x:=.c (.v .nil)) (y:=.c (.v (.tree []))) h (.c .nil)
theorem St.le_mvB (s:St) (nb b:Nat) (hne:Nat.beq nb b=false) (hb:lookH s.heap b=none) (hk1:Nat.ble k nb=true) (hk2:Nat.ble k b=true):St.le N k s (s.mv nb b):=
 St.le_mv s nb b (fun e=>by subst e;rw [Nat.beq_refl] at hne;cases hne) hb (Nat.le_of_ble_eq_true hk1) (Nat.le_of_ble_eq_true hk2)
theorem U.subU {m n:Int} (hx:s.ev x=iS .u64 m) (hy:s.ev y=iS .u64 n) (hb:0≤m- n∧m- n≤18446744073709551615) (hd:dstB N d=true) (h:TRun N k all Q r (s.put d (iS .u64 (m- n))) (some ⟨[],[],[],iS .u64 (m- n)⟩::τ)):TRun N k all Q (⟨d,.binOp .sub T x y T',ty,pos,aft,none⟩::r) s τ:=
 G.op (OStep.int2 rfl hx hy (v:=.int .u64 (m- n)) (fun w=>by simp [binOp,Op.intArith,IntWalk.u64_in (m- n) hb]) (fun _ _=> .int _ _)) trivial rfl hd h
theorem U.addU {m n:Int} (hx:s.ev x=iS .u64 m) (hy:s.ev y=iS .u64 n) (hb:0≤m+n∧m+n≤18446744073709551615) (hd:dstB N d=true) (h:TRun N k all Q r (s.put d (iS .u64 (m+n))) (some ⟨[],[],[],iS .u64 (m+n)⟩::τ)):TRun N k all Q (⟨d,.binOp .add T x y T',ty,pos,aft,none⟩::r) s τ:=
 G.op (OStep.int2 rfl hx hy (v:=.int .u64 (m+n)) (fun w=>by simp [binOp,Op.intArith,IntWalk.u64_in (m+n) hb]) (fun _ _=> .int _ _)) trivial rfl hd h
theorem U.shlU {kd':IntKind} {m n:Int} (hx:s.ev x=iS .u64 m) (hy:s.ev y=iS kd' n) (h0:0≤n) (h1:n≤64) (hb:0≤m*2 ^ n.toNat∧m*2 ^ n.toNat≤18446744073709551615) (hd:dstB N d=true) (h:TRun N k all Q r (s.put d (iS .u64 (m*2 ^ n.toNat))) (some ⟨[],[],[],iS .u64 (m*2 ^ n.toNat)⟩::τ)):TRun N k all Q (⟨d,.binOp .shl T x y T',ty,pos,aft,none⟩::r) s τ:=
 G.op (OStep.int2 rfl hx hy (v:=.int .u64 (m*2 ^ n.toNat)) (fun w=>by
  have e:min n.toNat 64=n.toNat:=by omega
  have e2:¬n<0:=by omega
  simp [binOp,IntWalk.u64_in _ hb, *]) (fun _ _=> .int _ _)) trivial rfl hd h
theorem U.appTo (_:pickNb s.heap nbs=some nb) {α:Type} {g:α→List TV} {l l':List α} {b:Nat} {eb:TypeId} {sz:Nat} (hx:s.ev x=.w (.c (.mref b))) (hbk:lookH s.heap b=some (.sl eb sz false (l.map g))) (hz':s.ev z=tS (l'.map g)) (hT:tys.get T=some yT) (hs:yT.shp=.slice eb) (he:tys.get eb=some ye) (hsz:sz=ye.size) (hg:∀v,(g v).length=ye.size) (hz:ye.zero.length=ye.size) (h0:Nat.blt 0 ye.size=true) (hby:Nat.blt 0 ye.bytes=true) (hby':Nat.ble ye.bytes 128=true) (hl:l.length+l'.length<1000000000000) (hw:s.freshB k nb=true) (hd:dstB N d=true)
 (h:TRun N k all Q r (s.eff d ⟨[(b,.sl eb ye.size false (l.map g))],[nb],[(b,none),(nb,some (.sl eb ye.size false ((l++l').map g)))],.w (.c (.mref nb))⟩) (some ⟨[(b,.sl eb ye.size false (l.map g))],[nb],[(b,none),(nb,some (.sl eb ye.size false ((l++l').map g)))],.w (.c (.mref nb))⟩::τ)):TRun N k all Q (⟨d,.call {callee:=.builtin .append,args:=#[x,z],argTypes:=#[T,T]},ty,pos,aft,none⟩::r) s τ:=by
 rw [List.map_append] at h
 refine G.appM nb (rows':=l'.map g) hx hbk hT hs he hsz hz h0 hby (.tree _ hz' fun row hrow=>?_) trivial ?_ hw hd h
 ·obtain ⟨v,_,rfl⟩:=List.mem_map.1 hrow
  exact hg v
 ·have h1:ye.bytes≤128:=Nat.le_of_ble_eq_true hby'
  rw [List.length_map,List.length_map]
  have h2:(l.length+l'.length)*ye.bytes≤(l.length+l'.length)*128:=Nat.mul_le_mul_left _ h1
  omega
theorem U.storeM {b i off:Nat} {eb:TypeId} {sz:Nat} {α:Type} {g:α→List TV} {l:List α} {u v:α} {w:WV} {vs:List TV} (hx:s.ev x=.w (.c (.ptr b i off))) (hb:lookH s.heap b=some (.sl eb sz false (l.map g))) (hz:s.ev z=.w w) (hv:w.closed=some vs) (hi:l[i]?=some u) (hg:g v=putAt (g u) off vs) (hT:tys.get T=some yT) (hl:vs.length=yT.size) (hle:Nat.ble (off+vs.length) (g u).length=true) (hd:dstB N d=true) (h:TRun N k all Q r (s.eff d ⟨[(b,.sl eb sz false (l.map g))],[],[(b,some (.sl eb sz false ((l.set i v).map g)))],SV.any⟩) (some ⟨[(b,.sl eb sz false (l.map g))],[],[(b,some (.sl eb sz false ((l.set i v).map g)))],SV.any⟩::τ)):TRun N k all Q (⟨d,.store T x z,ty,pos,aft,none⟩::r) s τ:=by
 have e1:(l.map g).set i (putAt (g u) off vs)=(l.set i v).map g:=by rw [←hg,List.map_set]
 refine G.storeSl hx hb hz hv (by rw [List.getElem?_map,hi];rfl) hT hl (Nat.le_of_ble_eq_true hle) hd ?_
 rw [e1]
 exact h
end
def iRow (n:Int):List TV:=[.int .i64 n]
def bRow (c:Int):List TV:=[.int .u8 c]
end Go.Proofs.YtgbkhjllbgmdcaaGreat
set_option linter.unusedVariables false
namespace Go.Proofs.YtgbkhjllbgmdcaaGreat
open Go.RowKit
def sameT:TV→TV→Bool
 | .int _ a,.int _ b=>a==b
 | .bool a,.bool b=>a==b
 | _,_=>false
def likeT':TV→TV→Bool
 | .int k _,.int k' _=>decide (k=k')
 | .bool _,.bool _=>true
 | _,_=>false
def sameR:List TV→List TV→Bool
 | [],[]=>true
 | x::r,y::q=>sameT x y&&sameR r q
 | _,_=>false
def likeR:List TV→List TV→Bool
 | [],[]=>true
 | x::r,y::q=>likeT' x y&&likeR r q
 | _,_=>false
section
variable {P:Program} {w:World} {F:Nat→Prop} {η:Nat→Value} {hp:Hp}
theorem likeT_ofT {x y:TV} {u v:Value} (h:likeT' x y=true) (hu:Tr w F x u) (hv:Tr w F y v):(∃k a b,u=.int k a∧v=.int k b∧sameT x y=(a==b))∨(∃a b,u=.bool a∧v=.bool b∧sameT x y=(a==b)):=by
 cases x<;>cases y<;>simp only [likeT',Bool.false_eq_true,decide_eq_true_eq] at h
 ·rename_i k a k' b
  subst h
  cases hu;cases hv
  exact .inl ⟨k,a,b,rfl,rfl,rfl⟩
 ·cases hu;cases hv
  exact .inr ⟨_,_,rfl,rfl,rfl⟩
theorem run_eq_plain {d:Nat} {t:TypeId} {x y:TV} {u v:Value} (hp:P.plainKey t=true) (h:likeT' x y=true) (hu:Tr w F x u) (hv:Tr w F y v)
 (hk:∀k n,x=.int k n→P.underlying t=some (.int k)) (hb:∀b,x=.bool b→P.underlying t=some .bool):(Op.equalIn (d+1) t u v).run P w=.ok (sameT x y) w:=by
 rcases likeT_ofT h hu hv with ⟨k,a,b,rfl,rfl,e⟩| ⟨a,b,rfl,rfl,e⟩
 ·cases x with
  | int k' n=>
    cases hu
    rw [e,Op.equalIn];simp [run_underlying (hk _ _ rfl)]
  | _=>cases hu
 ·cases x with
  | bool b'=>
    cases hu
    rw [e,Op.equalIn];simp [run_underlying (hb _ rfl)]
  | _=>cases hu
def cellB (P:Program) (t:TypeId):TV→Bool
 | .int k _=>(match P.underlying t with| some (.int k')=>decide (k=k')| _=>false)
 | .bool _=>(match P.underlying t with| some .bool=>true| _=>false)
 | _=>false
theorem cellB_ok {t:TypeId} {x:TV} (h:cellB P t x=true):P.plainKey t=true∧(∀k n,x=.int k n→P.underlying t=some (.int k))∧(∀b,x=.bool b→P.underlying t=some .bool):=by
 cases x with
 | int k n=>
   unfold cellB at h
   cases hu:P.underlying t with
   | none=>simp [hu] at h
   | some d=>
     cases d<;>simp [hu] at h
     subst h
     exact ⟨by simp [Program.plainKey,hu],fun k n e=>(by injection e with e1;subst e1;rfl),fun b e=>by cases e⟩
 | bool b=>
   unfold cellB at h
   cases hu:P.underlying t with
   | none=>simp [hu] at h
   | some d=>
     cases d<;>simp [hu] at h
     exact ⟨by simp [Program.plainKey,hu],fun k n e=>(by cases e),fun b e=>rfl⟩
 | nil=>cases h
 | tree rows=>cases h
 | nilf=>cases h
 | nilm=>cases h
 | mp l=>cases h
 | lk l=>cases h
def fieldsB (P:Program):Nat→List Field→List TV→Bool
 | _,[],[]=>true
 | n, f :: r, x :: q => f.name != "_" && Nat.beq f.offset n && cellB P f.type x && fieldsB P (n + 1) r q
 | _,_,_=>false
theorem run_eqRows {ra rb:List TV} {xs ys:Array Value} (hx:∀(i:Nat) (x:TV),ra[i]?=some x→∃u,xs[i]?=some u∧Tr w F x u) (hy:∀(i:Nat) (x:TV),rb[i]?=some x→∃u,ys[i]?=some u∧Tr w F x u) (d:Nat):∀(fs:List Field) (n:Nat),fieldsB P n fs (ra.drop n)=true→likeR (ra.drop n) (rb.drop n)=true→(Op.eqFields (d+1) xs ys fs).run P w=.ok (sameR (ra.drop n) (rb.drop n)) w
 | [],n,h,hl=>by
   cases ha:ra.drop n with
   | nil=>
     rw [ha] at hl
     cases hb:rb.drop n with
     | nil=>simp [Op.eqFields,sameR]
     | cons=>rw [hb] at hl;cases hl
   | cons=>rw [ha] at h;cases h
 | f::r,n,h,hl=>by
   cases ha:ra.drop n with
   | nil=>rw [ha] at h;cases h
   | cons x q=>
     rw [ha] at h hl
     cases hb:rb.drop n with
     | nil=>rw [hb] at hl;cases hl
     | cons y q'=>
       rw [hb] at hl
       simp only [fieldsB,Bool.and_eq_true,bne_iff_ne,ne_eq] at h
       simp only [likeR,Bool.and_eq_true] at hl
       obtain ⟨⟨⟨h1,h2⟩,h3⟩,h4⟩:=h
       have h2':=Nat.eq_of_beq_eq_true h2
       have e1:ra[n]?=some x:=by have:=List.getElem?_drop (xs:=ra) (i:=n) (j:=0);rw [ha] at this;simpa using this.symm
       have e2:rb[n]?=some y:=by have:=List.getElem?_drop (xs:=rb) (i:=n) (j:=0);rw [hb] at this;simpa using this.symm
       obtain ⟨u,hu1,hu2⟩:=hx n x e1
       obtain ⟨v,hv1,hv2⟩:=hy n y e2
       obtain ⟨c1,c2,c3⟩:=cellB_ok h3
       have q1:ra.drop (n+1)=q:=by rw [←List.drop_drop,ha];rfl
       have q2:rb.drop (n+1)=q':=by rw [←List.drop_drop,hb];rfl
       have ih:=run_eqRows hx hy d r (n+1) (by rw [q1];exact h4) (by rw [q1,q2];exact hl.2)
       rw [q1,q2] at ih
       simp only [Op.eqFields,h1,not_false_eq_true,ne_eq,if_true,Sem.run_bind,h2',run_part_plain w c1 hu1,run_part_plain w c1 hv1,Result.andThen_ok,run_eq_plain c1 hl.1 hu2 hv2 c2 c3,sameR]
       cases sameT x y
       ·simp
       ·simpa using ih
def itemsB (P:Program) (e:TypeId) (l:List TV):Bool:=l.all (cellB P e)
theorem run_eqItemsR {e:TypeId} {ra rb:List TV} {xs ys:Array Value} (hc:P.cellsOf e=1) (hx:∀(i:Nat) (x:TV),ra[i]?=some x→∃u,xs[i]?=some u∧Tr w F x u) (hy:∀(i:Nat) (x:TV),rb[i]?=some x→∃u,ys[i]?=some u∧Tr w F x u) (d:Nat):∀(m n:Nat),ra.length=n+m→itemsB P e (ra.drop n)=true→likeR (ra.drop n) (rb.drop n)=true→(Op.eqItems (d+1) e (P.cellsOf e) xs ys (List.range' n m)).run P w=.ok (sameR (ra.drop n) (rb.drop n)) w
 | 0,n,hm,h,hl=>by
   have ha:ra.drop n=[]:=List.drop_eq_nil_of_le (by omega)
   rw [ha] at hl ⊢
   cases hb:rb.drop n with
   | nil=>simp [Op.eqItems,sameR,List.range']
   | cons=>rw [hb] at hl;cases hl
 | m+1,n,hm,h,hl=>by
   cases ha:ra.drop n with
   | nil=>have:=congrArg List.length ha;simp at this;omega
   | cons x q=>
     rw [ha] at h hl
     cases hb:rb.drop n with
     | nil=>rw [hb] at hl;cases hl
     | cons y q'=>
       rw [hb] at hl
       simp only [itemsB,List.all_cons,Bool.and_eq_true] at h
       simp only [likeR,Bool.and_eq_true] at hl
       have e1:ra[n]?=some x:=by have:=List.getElem?_drop (xs:=ra) (i:=n) (j:=0);rw [ha] at this;simpa using this.symm
       have e2:rb[n]?=some y:=by have:=List.getElem?_drop (xs:=rb) (i:=n) (j:=0);rw [hb] at this;simpa using this.symm
       obtain ⟨u,hu1,hu2⟩:=hx n x e1
       obtain ⟨v,hv1,hv2⟩:=hy n y e2
       obtain ⟨c1,c2,c3⟩:=cellB_ok h.1
       have q1:ra.drop (n+1)=q:=by rw [←List.drop_drop,ha];rfl
       have q2:rb.drop (n+1)=q':=by rw [←List.drop_drop,hb];rfl
       have ih:=run_eqItemsR hc hx hy d m (n+1) (by omega) (by rw [q1];exact h.2) (by rw [q1,q2];exact hl.2)
       rw [q1,q2] at ih
       rw [List.range'_succ]
       simp only [hc] at ih ⊢
       simp only [Op.eqItems,Sem.run_bind,Nat.mul_one,run_part_plain w c1 hu1,run_part_plain w c1 hv1,Result.andThen_ok,run_eq_plain c1 hl.1 hu2 hv2 c2 c3,sameR]
       cases sameT x y
       ·simp
       ·simpa using ih
def eqB (P:Program) (t:TypeId) (ra:List TV):Bool:= !P.eqGuardType P.depth t&&match P.underlying t with
 | some (.struct fs)=>fieldsB P 0 fs.toList ra&&!P.stoodInHeld t
 | some (.array n e)=>itemsB P e ra&&Nat.beq ra.length n&&Nat.beq (P.cellsOf e) 1
 | _=>false
theorem run_eqAgg {t:TypeId} {ra rb:List TV} {us vs:List Value} (h:eqB P t ra=true) (hl:likeR ra rb=true) (hu:CsRep w F η hp (ra.map .v) us) (hv:CsRep w F η hp (rb.map .v) vs):(Op.equal t (.agg us.toArray) (.agg vs.toArray)).run P w=.ok (sameR ra rb) w:=by
 have key:∀{r:List TV} {zs:List Value},CsRep w F η hp (r.map .v) zs→∀(i:Nat) (x:TV),r[i]?=some x→∃u,zs.toArray[i]?=some u∧Tr w F x u:=fun {r zs} hc i x hx=>by
  have hi:i<zs.length:=by rw [hc.1,List.length_map];exact (List.getElem?_eq_some_iff.1 hx).1
  exact ⟨zs[i],by rw [List.getElem?_toArray,List.getElem?_eq_getElem hi],hc.2.2 i (.v x) zs[i] (by rw [List.getElem?_map,hx];rfl) (List.getElem?_eq_getElem hi)⟩
 unfold eqB at h
 simp only [Bool.and_eq_true] at h
 obtain ⟨-,h⟩:=h
 unfold Op.equal Op.maxDepth
 cases hd:P.underlying t with
 | none=>rw [hd] at h;cases h
 | some d=>
   rw [hd] at h
   cases d<;>first| (cases h;done)| skip
   ·rename_i n e
    simp only [Bool.and_eq_true] at h
    obtain ⟨⟨h1,h2⟩,h3⟩:=h
    have hlen:=Nat.eq_of_beq_eq_true h2
    have hc:=Nat.eq_of_beq_eq_true h3
    have hi:∃i,P.info? e=some i:=by
     unfold Program.cellsOf at hc
     cases hi:P.info? e with
     | none=>rw [hi] at hc;simp at hc
     | some i=>exact ⟨i,rfl⟩
    obtain ⟨i,hi⟩:=hi
    rw [show (10000:Nat)=9999+1 from rfl,run_equalIn_array w 9999 us.toArray vs.toArray hd hi,List.range_eq_range']
    exact run_eqItemsR hc (key hu) (key hv) 9998 n 0 (by omega) h1 hl
   ·rename_i fs
    simp only [Bool.and_eq_true,Bool.not_eq_true'] at h
    have hfs:P.fieldsOf t=fs:=by simp [Program.fieldsOf,hd]
    rw [show (10000:Nat)=9999+1 from rfl,run_equalIn_struct w 9999 t us.toArray vs.toArray (by rw [hfs];exact hd) h.2,hfs]
    exact run_eqRows (key hu) (key hv) 9998 fs.toList 0 h.1 hl
end
section
variable {P:Program} {o:Oper} {ev:Operand→SV} {t:TypeId} {y:Ty}
theorem OStep.eqAgg {op:BinOp} {T':TypeId} {x z:Operand} {ra rb:List TV} {b:Bool} (ho:o.op=.binOp op t x z T') (hx:ev x=.w (.agg (ra.map .v))) (hz:ev z=.w (.agg (rb.map .v))) (h:eqB P t ra=true) (hl:likeR ra rb=true) (hop:(op=.eql∧b=sameR ra rb)∨(op=.neq∧b= !sameR ra rb)):OStep P o ev ⟨[],[],[],bS b⟩:=
 .pure fun C w η F sl hp N a hR hev _=>by
  have h1:=hR.eval x
  have h2:=hR.eval z
  rw [hev x (by simp [ho,Op.operands]),hx] at h1
  rw [hev z (by simp [ho,Op.operands]),hz] at h2
  obtain ⟨us,e1,e2⟩:=h1
  obtain ⟨vs,e3,e4⟩:=h2
  have hq:=run_eqAgg h hl e2 e4
  have hgd:P.eqGuardType P.depth t=false:=by
   unfold eqB at h
   simp only [Bool.and_eq_true,Bool.not_eq_true'] at h
   exact h.1
  refine ⟨.bool b,?_,.bool _⟩
  unfold execOp;rw [ho]
  simp only [e1,e3,Sem.run_bind,run_eqGuard_agg w op t x z us.toArray vs.toArray hgd,Result.andThen_ok]
  rcases hop with ⟨rfl,rfl⟩| ⟨rfl,rfl⟩
  ·have hb:binOp .eql t (.agg us.toArray) (.agg vs.toArray)=(do Pure.pure (Value.bool (←Op.equal t (.agg us.toArray) (.agg vs.toArray)))):=rfl
   simp only [hb,Sem.run_bind,hq,Result.andThen_ok]
   rfl
  ·have hb:binOp .neq t (.agg us.toArray) (.agg vs.toArray)=(do Pure.pure (Value.bool (!(←Op.equal t (.agg us.toArray) (.agg vs.toArray))))):=rfl
   simp only [hb,Sem.run_bind,hq,Result.andThen_ok]
   rfl
theorem OStep.buildArr {parts:List (Nat × Operand)} {lp:List (Nat × WV)} {n:Nat} {et:TypeId} {ye:Ty} {r:List AV} (ho:o.op=.build t parts.toArray) (hy:TyFits P t y) (hs:y.shp=.array n et) (hye:TyFits P et ye) (hz:y.zero≠[]) (hpa:partsA ev parts=some lp) (hr:fillA (fun i=>some (i*ye.size,ye.size)) (y.zero.map .v) lp=some r):
 OStep P o ev ⟨[],[],[],.w (.agg r)⟩:=
 .pure fun C w η F sl hp N a hR hev hnd=>by
  have h1:=hy.array hs
  obtain ⟨⟨z,h3,h4⟩,h5⟩:=hy.zero (w:=w) hz
  have hev':∀p∈parts,evalS sl p.2=ev p.2:=fun p hp'=>hev p.2 (by simp [ho,Op.operands];exact ⟨p.1,hp'⟩)
  obtain ⟨h6,h7⟩:=partsA_rep hR hev' hpa
  have hcs:CsRep w F η hp (y.zero.map .v) z.cells.toList:=by
   rw [h4]
   refine csRep_closed (by simp) fun j x u hx hu=>?_
   rw [List.getElem?_map,hx] at hu
   simp only [Option.map_some,Option.some.injEq] at hu
   subst hu
   exact Tr.val0 (h5 x (List.mem_of_getElem? hx))
  obtain ⟨cs',h8,h9⟩:=run_fill hR.heap (fun i=>some (i*ye.size,ye.size)) lp (parts.map fun p=>(p.1,a.eval p.2)) _ r z.cells h6 h7 hcs hr
  obtain ⟨it,hi1,_,_,hi4⟩:=hy.info
  obtain ⟨z',hz1,_⟩:=hi4 hz
  have hzz:z'=z:=by
   have:(zeroValue t).run P w=.ok z' w:=by simp [zeroValue,typeInfo,hi1,hz1]
   rw [h3] at this
   injection this with this _
   exact this.symm
  obtain ⟨ie,he1,he2,_⟩:=hye.info
  have hbuilt:P.built t ((parts.map fun p=>(p.1,a.eval p.2)).toArray).toList=some cs':=by
   unfold Program.built
   rw [hi1,h1]
   dsimp only
   rw [hz1,he1]
   dsimp only
   rw [he2,hzz]
   exact h8
  refine ⟨.agg cs',?_,cs'.toList,by simp,h9⟩
  unfold execOp;rw [ho]
  have:=run_build (P:=P) w t (parts.map fun p=>(p.1,a.eval p.2)).toArray cs' hbuilt
  simp only [List.map_toArray,Sem.run_bind]
  rw [this]
  rfl
theorem OStep.idxAT {x z:Operand} {row:List TV} {off:Nat} {k:IntKind} {n m:Nat} {et:TypeId} {ye:Ty} (ho:o.op=.indexAddr t x z) (hx:ev x=.w (.c (.tptr row off))) (hz:ev z=iS k (n:Int)) (hy:TyFits P t y) (hs:y.shp=.array m et) (hye:TyFits P et ye) (hn:n<m):
 OStep P o ev ⟨[],[],[],.w (.c (.tptr row (off+n*ye.size)))⟩:=
 .pure fun C w η F sl hp N a hR hev hnd=>by
  have h1:=hR.eval x
  have h5:=hR.int ((hev z (by simp [ho,Op.operands])).trans hz)
  rw [hev x (by simp [ho,Op.operands]),hx] at h1
  obtain ⟨g,p,cv,h2,h3,h4⟩:=h1
  refine ⟨.pointer (some ⟨g,p+(off+n*ye.size),none⟩),?_,g,p,cv,h2,rfl,h4⟩
  unfold execOp;rw [ho]
  simp [Instr.indexAt,h3,h5,asIntOf,run_underlying (hy.array hs),hye.run_size,hn,addr_add,Instr.sureAddr,Nat.add_assoc]
end
end Go.Proofs.YtgbkhjllbgmdcaaGreat
namespace Go.Proofs.YtgbkhjllbgmdcaaGreat
open Go.RowKit
def tz:TV→TV
 | .nil=> .tree []
 | .int k n=> .int k n
 | .bool b=> .bool b
 | .tree rows=> .tree rows
 | .nilf=> .nilf
 | .nilm=> .nilm
 | .mp l=> .mp l
 | .lk l=> .lk l
def tzA:AV→AV
 | .v t=> .v (tz t)
 | .mref b=> .mref b
 | .ptr b i o=> .ptr b i o
 | .view b i o=> .view b i o
 | .tptr r o=> .tptr r o
 | .one=> .one
 | .any=> .any
 | .clo f l=> .clo f l
def tzW:WV→WV
 | .c a=> .c (tzA a)
 | .agg l=> .agg (l.map tzA)
def tzS:SV→SV
 | .w x=> .w (tzW x)
 | .tup l=> .tup (l.map tzW)
def tzB:Blk→Blk
 | .sl e sz f rows=> .sl e sz f (rows.map fun row=>row.map tz)
 | .bx e cells=> .bx e (cells.map tzA)
 | .gh Φ=> .gh Φ
def tzU:List (Nat × Option Blk)→List (Nat × Option Blk)
 | []=>[]
 | (b,some k)::r=>(b,some (tzB k))::tzU r
 | (b,none)::r=>(b,none)::tzU r
def tzE (ρ:Eff):Eff:=⟨ρ.need,ρ.new,tzU ρ.upd,tzS ρ.r⟩
section
variable {w:World} {F:Nat→Prop} {η:Nat→Value} {hp hp':Hp}
def TzH (hp hp':Hp):Prop:=∀b,hp' b=hp b∨hp' b=(hp b).map tzB
theorem Tr.tz {t:TV} {u:Value} (h:Tr w F t u):Tr w F (Go.Proofs.YtgbkhjllbgmdcaaGreat.tz t) u:=by
 cases t with
 | nil=>rw [Tr.nil_inv h];exact Tr.empty none 0 (by simp [maxLen])
 | int k n=>exact h
 | bool b=>exact h
 | tree rows=>exact h
 | nilf=>exact h
 | nilm=>exact h
 | mp l=>exact h
 | lk l=>exact h
theorem CRep.tz {x:AV} {u:Value} (h:CRep w F η hp x u):CRep w F η hp (tzA x) u:=by
 cases x with
 | v t=>exact Tr.tz h
 | mref b=>exact h
 | ptr b i o=>exact h
 | view b i o=>exact h
 | tptr r o=>exact h
 | one=>exact h
 | any=>exact h
 | clo f l=>exact h
theorem CRep.tzH (hh:TzH hp hp') {x:AV} {u:Value} (h:CRep w F η hp x u):CRep w F η hp' x u:=by
 cases x with
 | v t=>exact h
 | tptr r o=>exact h
 | one=>exact h
 | any=>exact h
 | clo f l=>
   obtain ⟨us,h1,h2,h3⟩:=h
   refine ⟨us,h1,h2,fun i c x hc hx=>?_⟩
   have h4:=h3 i c x hc hx
   cases c with
   | v t=>exact h4
   | p b=>
     rcases hh b with e| e
     ·simp only [CapRep,e] at h4 ⊢;exact h4
     ·simp only [CapRep,e] at h4 ⊢
      cases hb:hp b with
      | none=>rw [hb] at h4;exact h4
      | some k=>rw [hb] at h4;cases k<;>exact h4
 | mref b=>
   rcases hh b with e| e
   ·simp only [CRep,e] at h ⊢;exact h
   ·simp only [CRep,e] at h ⊢
    cases hb:hp b with
    | none=>rw [hb] at h;exact h
    | some k=>rw [hb] at h;cases k<;>exact h
 | ptr b i o=>
   rcases hh b with e| e
   ·simp only [CRep,e] at h ⊢;exact h
   ·simp only [CRep,e] at h ⊢
    cases hb:hp b with
    | none=>rw [hb] at h;exact h
    | some k=>rw [hb] at h;cases k<;>exact h
 | view b i o=>
   rcases hh b with e| e
   ·simp only [CRep,e] at h ⊢;exact h
   ·simp only [CRep,e] at h ⊢
    cases hb:hp b with
    | none=>rw [hb] at h;exact h
    | some k=>rw [hb] at h;cases k<;>exact h
theorem CsRep.tzH (hh:TzH hp hp') {l:List AV} {us:List Value} (h:CsRep w F η hp l us):CsRep w F η hp' l us:=⟨h.1,h.2.1,fun i x y hx hy=>(h.2.2 i x y hx hy).tzH hh⟩
theorem CsRep.tz {l:List AV} {us:List Value} (h:CsRep w F η hp l us):CsRep w F η hp (l.map tzA) us:=by
 refine ⟨by simpa using h.1,h.2.1,fun i x y hx hy=>?_⟩
 rw [List.getElem?_map,Option.map_eq_some_iff] at hx
 obtain ⟨z,h1,rfl⟩:=hx
 exact (h.2.2 i z y h1 hy).tz
theorem WRep.tz {x:WV} {u:Value} (h:WRep w F η hp x u):WRep w F η hp (tzW x) u:=by
 cases x with
 | c a=>exact CRep.tz h
 | agg l=>obtain ⟨us,h1,h2⟩:=h;exact ⟨us,h1,h2.tz⟩
theorem WRep.tzH (hh:TzH hp hp') {x:WV} {u:Value} (h:WRep w F η hp x u):WRep w F η hp' x u:=by
 cases x with
 | c a=>exact CRep.tzH hh h
 | agg l=>obtain ⟨us,h1,h2⟩:=h;exact ⟨us,h1,h2.tzH hh⟩
theorem SRep.tz {x:SV} {u:Value} (h:SRep w F η hp x u):SRep w F η hp (tzS x) u:=by
 cases x with
 | w x=>exact WRep.tz h
 | tup l=>
   obtain ⟨us,h1,h2,h3⟩:=h
   refine ⟨us,h1,by simpa using h2,fun i x y hx hy=>?_⟩
   rw [List.getElem?_map,Option.map_eq_some_iff] at hx
   obtain ⟨z,h4,rfl⟩:=hx
   exact (h3 i z y h4 hy).tz
theorem SRep.tzH (hh:TzH hp hp') {x:SV} {u:Value} (h:SRep w F η hp x u):SRep w F η hp' x u:=by
 cases x with
 | w x=>exact WRep.tzH hh h
 | tup l=>obtain ⟨us,h1,h2,h3⟩:=h;exact ⟨us,h1,h2,fun i x y hx hy=>(h3 i x y hx hy).tzH hh⟩
theorem BRep.tzH (hh:TzH hp hp') {b:Nat} {k:Blk} (h:BRep w F η hp b k):BRep w F η hp' b k:=by
 cases k with
 | sl e sz f rows=>exact h
 | bx e cells=>obtain ⟨g,cs,h1,h2,h3⟩:=h;exact ⟨g,cs,h1,h2,h3.tzH hh⟩
 | gh Φ=>exact h
theorem BRep.tz {b:Nat} {k:Blk} (h:BRep w F η hp b k):BRep w F η hp b (tzB k):=by
 cases k with
 | sl e sz f rows=>
   obtain ⟨cells,h1,h2,h3⟩:=h
   refine ⟨cells,by rw [List.length_map];exact h1,fun row hr=>?_,fun i j row x hi hj=>?_⟩
   ·obtain ⟨r',h4,rfl⟩:=List.mem_map.1 hr
    rw [List.length_map];exact h2 r' h4
   ·rw [List.getElem?_map,Option.map_eq_some_iff] at hi
    obtain ⟨r',h4,rfl⟩:=hi
    rw [List.getElem?_map,Option.map_eq_some_iff] at hj
    obtain ⟨x',h5,rfl⟩:=hj
    obtain ⟨u,h6,h7⟩:=h3 i j r' x' h4 h5
    exact ⟨u,h6,h7.tz⟩
 | bx e cells=>obtain ⟨g,cs,h1,h2,h3⟩:=h;exact ⟨g,cs,h1,h2,h3.tz⟩
 | gh Φ=>exact h
theorem tzB_live (k:Blk):(tzB k).live=k.live:=by cases k<;>rfl
theorem TzH.ofSome {hp hp':Hp} (hh:TzH hp hp') {b:Nat} {k:Blk} (h:hp' b=some k):∃k',hp b=some k'∧(k=k'∨k=tzB k'):=by
 rcases hh b with e| e
 ·exact ⟨k,e▸h,.inl rfl⟩
 ·rw [e,Option.map_eq_some_iff] at h
  obtain ⟨k',h1,h2⟩:=h
  exact ⟨k',h1,.inr h2.symm⟩
theorem live_tz {k k':Blk} (h:k=k'∨k=tzB k'):k.live=k'.live:=by
 rcases h with rfl| rfl
 ·rfl
 ·exact tzB_live _
theorem tzB_gh (k:Blk):(tzB k).isGh=k.isGh:=by cases k<;>rfl
theorem HRep.tz {C:Ctx} (h:HRep C w η F hp) (hh:TzH hp hp'):HRep C w η F hp':=by
 refine ⟨fun b k hb=>?_,fun b b' k k' g hb hb' hne hl hl'=>?_,fun b k g hb hl=>?_,fun b k g hb hl=>?_,h.Flt,fun b k g hb hl=>?_,fun j v k hj hk=>?_,h.keep,h.Fbd,h.amb⟩
 ·obtain ⟨k0,h1,h2⟩:=hh.ofSome hb
  have h3:=(h.blocks b k0 h1).tzH hh
  rcases h2 with rfl| rfl
  ·exact h3
  ·exact h3.tz
 ·obtain ⟨k0,h1,h2⟩:=hh.ofSome hb
  obtain ⟨k1,h3,h4⟩:=hh.ofSome hb'
  exact h.sep b b' k0 k1 g h1 h3 hne (live_tz h2▸hl) (live_tz h4▸hl')
 ·obtain ⟨k0,h1,h2⟩:=hh.ofSome hb
  exact h.liveF b k0 g h1 (live_tz h2▸hl)
 ·obtain ⟨k0,h1,h2⟩:=hh.ofSome hb
  exact h.frzF b k0 g h1 (live_tz h2▸hl)
 ·obtain ⟨k0,h1,h2⟩:=hh.ofSome hb
  exact h.fresh b k0 g h1 (live_tz h2▸hl)
 ·obtain ⟨k0,h1,h2⟩:=hh.ofSome hk
  have q:=h.bor j v k0 hj h1
  refine ⟨q.1,?_⟩
  rcases h2 with rfl| rfl
  ·exact q.2
  ·rw [tzB_gh];exact q.2
theorem TzH.upd:∀(u:List (Nat × Option Blk)) {hp hp':Hp},TzH hp hp'→TzH (hpUpd hp u) (hpUpd hp' (tzU u))
 | [],_,_,h=>h
 | (b,some k)::r,hp,hp',h=>by
   refine TzH.upd r (fun c=>?_)
   by_cases hc:c=b
   ·subst hc;rw [hpSet_same,hpSet_same];exact .inr rfl
   ·rw [hpSet_other hc,hpSet_other hc];exact h c
 | (b,none)::r,hp,hp',h=>by
   refine TzH.upd r (fun c=>?_)
   by_cases hc:c=b
   ·subst hc;rw [hpSet_same,hpSet_same];exact .inl rfl
   ·rw [hpSet_other hc,hpSet_other hc];exact h c
theorem TzH.refl (hp:Hp):TzH hp hp:=fun _=> .inl rfl
theorem OStep.tz {P:Program} {o:Oper} {ev:Operand→SV} {ρ:Eff} (h:OStep P o ev ρ):OStep P o ev (tzE ρ):=by
 intro C w η F sl hp N a K Q hR hev hn hnew hd hK
 refine h C w η F sl hp N a K Q hR hev hn hnew hd fun v w' η' F' hR'=>hK v w' η' F' ?_
 have hh:=TzH.upd ρ.upd (TzH.refl hp)
 refine ⟨hR'.size,hR'.defers,fun t=>?_,hR'.heap.tz hh⟩
 have h1:=(hR'.slots t).tzH hh
 unfold Sl.put at h1 ⊢
 split
 ·rename_i e;rw [if_pos e] at h1;exact h1.tz
 ·rename_i e;rw [if_neg e] at h1;exact h1
theorem FCalls.tz {P:Program} {f:FuncId} {B B':List (TypeId × List TV)} {aa:List WV} {r:SV} {E:List Blk} (h:FCalls P f B (aa.map tzW) r E B'):FCalls P f B aa r E B':=by
 obtain ⟨h1,h2,h3⟩:=h
 refine ⟨h1,h2,fun w gs η F vs hg hH hvs ha=>h3 w gs η F vs hg hH (by simpa using hvs) fun i x v hx hv=>?_⟩
 rw [List.getElem?_map,Option.map_eq_some_iff] at hx
 obtain ⟨z,h4,rfl⟩:=hx
 exact (ha i z v h4 hv).tz
end
theorem hpUpd_app:∀(u v:List (Nat × Option Blk)) (hp:Hp),hpUpd hp (u++v)=hpUpd (hpUpd hp u) v
 | [],_,_=>rfl
 | (b,x)::r,v,hp=>hpUpd_app r v (hpSet hp b x)
theorem OStep.close {P:Program} {o:Oper} {ev:Operand→SV} {need:List (Nat × Blk)} {U:List (Nat × Option Blk)} {nb:Nat} {e:TypeId} {sz:Nat} {rows:List (List TV)} (h:OStep P o ev ⟨need,[nb],U++[(nb,some (.sl e sz false rows))],.w (.c (.mref nb))⟩):OStep P o ev ⟨need,[nb],U++[(nb,none)],.w (.c (.v (.tree rows)))⟩:=by
 intro C w η F sl hp N a K Q hR hev hn hnew hd hK
 refine h C w η F sl hp N a K Q hR hev hn hnew hd fun v w' η' F' hR'=>hK v w' η' (fun g=>F' g∨Own (η' nb) g) ?_
 obtain ⟨-, -,hus,hbs⟩:=hnew nb (by simp)
 obtain ⟨h1,h2,h3,h4⟩:=hR'
 simp only [hpUpd_app] at h3 h4 ⊢
 generalize hpUpd hp U=hq at h3 h4 ⊢
 show Reps C w' η' _ _ (hpSet hq nb none) N _
 have h4':HRep C w' η' F' (hpSet hq nb (some (.sl e sz false rows))):=h4
 have hk:hpSet hq nb (some (.sl e sz false rows)) nb=some (.sl e sz false rows):=hpSet_same _ _ _
 have h5:=(h4'.freeze hk).drop (b:=nb) hbs
 have e1:hpSet (hpSet (hpSet hq nb (some (.sl e sz false rows))) nb (some (.sl e sz true rows))) nb none=hpSet hq nb none:=by
  funext c
  by_cases hc:c=nb
  ·subst hc;rw [hpSet_same,hpSet_same]
  ·rw [hpSet_other hc,hpSet_other hc,hpSet_other hc,hpSet_other hc]
 rw [e1] at h5
 refine ⟨h1,h2,fun t=>?_,h5⟩
 have h6:=h3 t
 unfold Sl.put at h6 ⊢
 split
 ·rename_i ht
  rw [if_pos ht] at h6
  have h7:SRep w' F' η' (hpSet hq nb (some (.sl e sz false rows))) (.w (.c (.mref nb))) _:=h6
  simp only [SRep,WRep,CRep,hk] at h7
  have h8:=((h4'.freeze hk).blocks nb _ (hpSet_same _ _ _)).tree fun g hg=> .inr (own_of_block hg)
  show SRep w' _ η' _ (.w (.c (.v (.tree rows)))) _
  simp only [SRep,WRep,CRep]
  rw [h7];exact h8
 ·rename_i ht
  rw [if_neg ht] at h6
  have h7:SRep w' F' η' (hpSet hq nb (some (.sl e sz false rows))) (sl t) _:=h6
  refine h4'.slot h7 (fun _ h=> .inl h) (fun _ _=>rfl) fun c=>?_
  by_cases hc:c=nb
  ·subst hc;exact .inl (hus t)
  ·exact .inr (Stays.of_same (by rw [hpSet_other hc,hpSet_other hc]) rfl)
theorem St.le_cells {N k:Nat} (s:St) (b:Nat) {e:TypeId} {cells cells':List AV} (hb:lookH s.heap b=some (.bx e cells)) (hn:cells.length=cells'.length) (hl:∀(i:Nat) (x y:AV),cells[i]?=some x→cells'[i]?=some y→ALe s.heap x y):St.le N k s ⟨s.slots,setH s.heap b (some (.bx e cells'))⟩:=by
 rintro C w a hk ⟨η,F,hR⟩
 have he:(lookH (setH s.heap b (some (.bx e cells'))))=hpSet s.hp b (some (.bx e cells')):=by funext c;rw [lookH_setH];rfl
 obtain ⟨g,cs,h1,h2,h3⟩:=hR.heap.blocks b _ hb
 have hst:Stays η η s.hp (hpSet s.hp b (some (.bx e cells'))) b:=.inr (.inr (.inl ⟨e,cells,cells',hb,hpSet_same _ _ _,rfl⟩))
 have hsta:∀c,Stays η η s.hp (hpSet s.hp b (some (.bx e cells'))) c:=fun c=>by
  by_cases hc:c=b
  ·subst hc;exact hst
  ·exact Stays.of_same (hpSet_other hc) rfl
 have h4:CsRep w F η s.hp cells' cs:=⟨by rw [h3.1,hn],h3.2.1,fun i y u hy hu=>by
  have hi:i<cells'.length:=(List.getElem?_eq_some_iff.1 hy).1
  have hx:=List.getElem?_eq_getElem (l:=cells) (i:=i) (by omega)
  exact (hl i _ y hx hy).rep hR.heap (h3.2.2 i _ u hx hu)⟩
 have hH:=hR.heap.write (b:=b) (k':=.bx e cells') hb rfl rfl (by rw [h1];rfl) hst (fun _ _ _=>⟨_,_,rfl⟩) (fun _ _=>rfl) rfl rfl rfl rfl
  ⟨g,cs,h1,h2,csRep_new hR.heap h4 (fun _ _=>rfl) fun c _=>hsta c⟩
 refine ⟨η,F,hR.size,hR.defers,fun t=>?_,?_⟩
 ·show SRep w F η (lookH (setH s.heap b _)) _ _
  rw [he]
  exact hR.heap.slot (hR.slots t) (fun _ h=>h) (fun _ _=>rfl) fun c=> .inr (hsta c)
 ·show HRep C w η F (lookH (setH s.heap b _))
  rw [he];exact hH
def putA:List AV→Nat→AV→List AV
 | [],_,_=>[]
 | _::r,0,y=>y::r
 | x::r,n+1,y=>x::putA r n y
theorem putA_length:∀(l:List AV) (n:Nat) (y:AV),(putA l n y).length=l.length
 | [],_,_=>rfl
 | _::_,0,_=>rfl
 | _::r,n+1,y=>by simp [putA,putA_length r n y]
theorem putA_le {h:List (Option Blk)}:∀{l:List AV} {n:Nat} {x y:AV},l[n]?=some x→ALe h x y→∀(i:Nat) (u v:AV),l[i]?=some u→(putA l n y)[i]?=some v→ALe h u v
 | [],_,_,_,_,_,i,u,v,hu,_=>by simp at hu
 | a::r,0,x,y,hx,hl,i,u,v,hu,hv=>by
   cases i with
   | zero=>simp [putA] at hx hu hv;subst hx;subst hu;subst hv;exact hl
   | succ i=>simp [putA] at hu hv;rw [hu] at hv;injection hv with hv;subst hv;exact .refl _
 | a::r,n+1,x,y,hx,hl,i,u,v,hu,hv=>by
   cases i with
   | zero=>simp [putA] at hu hv;subst hu;subst hv;exact .refl _
   | succ i=>exact putA_le (l:=r) (n:=n) (by simpa using hx) hl i u v (by simpa using hu) (by simpa [putA] using hv)
theorem St.le_cell {N k:Nat} (s:St) (b n:Nat) {e:TypeId} {cells:List AV} {x y:AV} (hb:lookH s.heap b=some (.bx e cells)) (hx:cells[n]?=some x) (hl:ALe s.heap x y):St.le N k s ⟨s.slots,setH s.heap b (some (.bx e (putA cells n y)))⟩:=
 St.le_cells s b hb (putA_length _ _ _).symm (putA_le hx hl)
theorem St.le_tcell {N k:Nat} (s:St) (b n c:Nat) {e ec:TypeId} {sz:Nat} {f:Bool} {cells:List AV} {rows:List (List TV)} (hne:Nat.beq b c=false) (hb:lookH s.heap b=some (.bx e cells)) (hx:cells[n]?=some (.mref c)) (hc:lookH s.heap c=some (.sl ec sz f rows)):St.le N k s ⟨s.slots,setH (setH s.heap c (some (.sl ec sz true rows))) b (some (.bx e (putA cells n (.v (.tree rows)))))⟩:=by
 have hbc:b≠c:=fun e=>by subst e;rw [Nat.beq_refl] at hne;cases hne
 exact (St.le_freeze s c hc).trans (St.le_cell (s:=⟨s.slots,setH s.heap c (some (.sl ec sz true rows))⟩) b n (by show lookH (setH s.heap c _) b=_;rw [lookH_setH,if_neg hbc];exact hb) hx (.froz c ec sz rows (by show lookH (setH s.heap c _) c=_;rw [lookH_setH,if_pos rfl])))
theorem St.le_ncell {N k:Nat} (s:St) (b n:Nat) {e:TypeId} {cells:List AV} (hb:lookH s.heap b=some (.bx e cells)) (hx:cells[n]?=some (.v .nil)):St.le N k s ⟨s.slots,setH s.heap b (some (.bx e (putA cells n (.v (.tree [])))))⟩:=
 St.le_cell s b n hb hx .nil
end Go.Proofs.YtgbkhjllbgmdcaaGreat
set_option linter.unusedVariables false
set_option maxRecDepth 20000
namespace Go.Proofs.YtgbkhjllbgmdcaaGreat
open Go.RowKit Q
structure VS (N k:Nat) {β:Type} (c:Code) (q:β→Po) (s:St) (m:M β):Prop where
 out:∀r,m r→VWp N k c (q r) s
structure TS (N k:Nat) {β:Type} (all:List Oper) (q:β→Po) (l:List Oper) (s:St) (τ:List (Option Eff)) (m:M β):Prop where
 out:∀r,m r→TRun N k all (q r) l s τ
structure ES {β:Type} (q:β→Po) (e:Exit) (s:St) (m:M β):Prop where
 out:∀r,m r→Ends (q r) e s
structure VR (N k:Nat) (c:Code) (q:Po) (n:Nat) (s:St):Prop where
 out:∀(C:Ctx) (w:World) (a:Act),C.bs.length=k→s.Rep C N w a→Code.rounds Tryz.prog c (fun e a' w'=>∃s',q.den e s'∧s'.Rep C N w' a') n a w
section
variable {N k:Nat} {β γ:Type} {q q':β→Po} {s s':St} {m m1 m2:M β}
theorem VS.seq {c c':Code} (h:VS N k c (fun r=> .thn (VWp N k c' (q r)) (q r)) s m):VS N k (.seq c c') q s m:=⟨fun r hr=>V.seq (h.out r hr)⟩
theorem VS.join {c c':Code} (S:γ→St) {K:γ→M β} {B:(γ→M β)→M β} (hK:∀j,VS N k c' q (S j) (K j)) (hB:∀kk:γ→M β,(∀j r,kk j r→VWp N k c' (q r) (S j))→VS N k c (fun r=> .thn (VWp N k c' (q r)) (q r)) s (B kk)):VS N k (.seq c c') q s (M.join K B):=
 ⟨fun r hr=>V.seq ((hB K fun j r hj=>(hK j).out r hj).out r (M.join_iff.1 hr))⟩
theorem VS.region {id:Nat} {l:List Oper} (h:TS N k l q l s [] m) (hp:∀r,(q r).plain=true:=by exact fun _=>rfl):VS N k (.region id l.toArray false) q s m:=⟨fun r hr=>V.region (hp r) (h.out r hr)⟩
theorem VS.drawn {id:Nat} {l:List Oper} (h:TS N k l (fun r=> .drw l s (q r)) l s [] m):VS N k (.region id l.toArray true) q s m:=⟨fun r hr=>V.drawn (h.out r hr)⟩
theorem VS.cond {c:Operand} {x y:Code} {b:Bool} (ht:b=true→VS N k x q s m1) (hf:b=false→VS N k y q s m2) (hc:s.ev c=bS b:=by exact rfl):VS N k (.cond c x y) q s (M.bif b m1 m2):=
 ⟨fun r hr=>V.cond hc (fun h=>(ht h).out r (by rcases M.bif_iff.1 hr with ⟨_,h1⟩| ⟨h1,_⟩;exact h1;rw [h] at h1;cases h1)) (fun h=>(hf h).out r (by rcases M.bif_iff.1 hr with ⟨h1,_⟩| ⟨_,h1⟩;rw [h] at h1;cases h1;exact h1))⟩
theorem VS.condT {c:Operand} {x y:Code} {b:Bool} (hb:b=true) (h:VS N k x q s m) (hc:s.ev c=bS b:=by exact rfl):VS N k (.cond c x y) q s m:=⟨fun r hr=>V.condT hc hb (h.out r hr)⟩
theorem VS.condF {c:Operand} {x y:Code} {b:Bool} (hb:b=false) (h:VS N k y q s m) (hc:s.ev c=bS b:=by exact rfl):VS N k (.cond c x y) q s m:=⟨fun r hr=>V.condF hc hb (h.out r hr)⟩
theorem VS.skip (h:ES q .normal s m):VS N k .skip q s m:=⟨fun r hr=>V.skip (h.out r hr)⟩
theorem VS.ret (h:ES q .ret s m):VS N k .ret q s m:=⟨fun r hr=>V.ret (h.out r hr)⟩
theorem VS.exit {id:Nat} (h:ES q (.exit id) s m):VS N k (.exit id) q s m:=⟨fun r hr=>V.exit (h.out r hr)⟩
theorem VS.block {id:Nat} {c:Code} (h:VS N k c (fun r=> .blk id (q r)) s m):VS N k (.block id c) q s m:=⟨fun r hr=>V.block (h.out r hr)⟩
theorem VS.weak {c:Code} (hl:St.le N k s s') (h:VS N k c q s' m):VS N k c q s m:=⟨fun r hr=>V.weak hl (h.out r hr)⟩
theorem VS.loop {c:Code} (S:γ→St) {F:(γ→M β)→γ→M β} {j0:γ} (h0:St.le N k s (S j0)) (h:∀(n:Nat) (again:γ→M β),(∀j r,again j r→VR N k c (q r) n (S j))→∀j,VS N k c (fun r=> .thn (VR N k c (q r) n) (q r)) (S j) (F again j)):VS N k (.loop c) q s (M.loop F j0):=by
 refine ⟨fun r hr=>?_⟩
 obtain ⟨n,hn⟩:=M.loop_iff.1 hr
 have key:∀n j r,M.iter F n j r→VR N k c (q r) n (S j):=by
  intro n
  induction n with
  | zero=>intro j r hr;exact hr.elim
  | succ n ih=>
    intro j r hr
    refine ⟨fun C w a hk hrep=>?_⟩
    rw [rounds_succ]
    refine wp_mono (((h n _ ih j).out r hr).out C w a hk hrep) fun e a' w' ⟨s',h1,h2⟩=>?_
    cases e with
    | normal=>exact (show VR N k c (q r) n s' from h1).out C w' a' hk h2
    | _=>exact ⟨s',h1,h2⟩
 exact ⟨fun C w a hk hrep=>wp_loop_rounds n ((key n j0 r hn).out C w a hk (h0 C w a hk hrep))⟩
structure UR (N k n:Nat) {β:Type} (c:Code) (q:β→Po) (s:St) (m:M β):Prop where
 out:∀r,m r→VR N k c (q r) n s
theorem VS.unroll {c:Code} (n:Nat) (h:UR N k n c q s m):VS N k (.loop c) q s m:=⟨fun r hr=>⟨fun C w a hk hrep=>wp_loop_rounds n ((h.out r hr).out C w a hk hrep)⟩⟩
theorem UR.step {c:Code} {n:Nat} (h:VS N k c (fun r=> .thn (VR N k c (q r) n) (q r)) s m):UR N k (n+1) c q s m:=by
 refine ⟨fun r hr=>⟨fun C w a hk hrep=>?_⟩⟩
 rw [rounds_succ]
 refine wp_mono ((h.out r hr).out C w a hk hrep) fun e a' w' ⟨s',h1,h2⟩=>?_
 cases e with
 | normal=>exact (show VR N k c (q r) n s' from h1).out C w' a' hk h2
 | _=>exact ⟨s',h1,h2⟩
theorem UR.weak {c:Code} {n:Nat} (hl:St.le N k s s') (h:UR N k n c q s' m):UR N k n c q s m:=⟨fun r hr=>⟨fun C w a hk hrep=>(h.out r hr).out C w a hk (hl C w a hk hrep)⟩⟩
theorem ES.ur {c:Code} {n:Nat} (h:UR N k n c q s m):ES (fun r=> .thn (VR N k c (q r) n) (q' r)) .normal s m:=⟨fun r hr=>E.thnV (h.out r hr)⟩
theorem ES.seq {c:Code} (h:VS N k c q s m):ES (fun r=> .thn (VWp N k c (q r)) (q' r)) .normal s m:=⟨fun r hr=>E.thnV (h.out r hr)⟩
theorem ES.jn {c:Code} {S:γ→St} {kk:γ→M β} (ih:∀j r,kk j r→VWp N k c (q r) (S j)) (j:γ) (hl:St.le N k s (S j)):ES (fun r=> .thn (VWp N k c (q r)) (q' r)) .normal s (kk j):=⟨fun r hr=>E.thnV (V.weak hl (ih j r hr))⟩
theorem ES.go {c:Code} {S:γ→St} {n:Nat} {again:γ→M β} (ih:∀j r,again j r→VR N k c (q r) n (S j)) (j:γ) (hl:St.le N k s (S j)):ES (fun r=> .thn (VR N k c (q r) n) (q' r)) .normal s (again j):=⟨fun r hr=>E.thnV ⟨fun C w a hk hrep=>(ih j r hr).out C w a hk (hl C w a hk hrep)⟩⟩
theorem ES.thnE {next:β→St→Prop} {i:Nat} (h:ES q (.exit i) s m):ES (fun r=> .thn (next r) (q r)) (.exit i) s m:=⟨fun r hr=>E.thnE (h.out r hr)⟩
theorem ES.thnR {next:β→St→Prop} (h:ES q .ret s m):ES (fun r=> .thn (next r) (q r)) .ret s m:=⟨fun r hr=>E.thnR (h.out r hr)⟩
theorem ES.blkN {id:Nat} (h:ES q .normal s m):ES (fun r=> .blk id (q r)) .normal s m:=⟨fun r hr=>E.blkN (h.out r hr)⟩
theorem ES.blkR {id:Nat} (h:ES q .ret s m):ES (fun r=> .blk id (q r)) .ret s m:=⟨fun r hr=>E.blkR (h.out r hr)⟩
theorem ES.blkE {id:Nat} (h:ES q .normal s m):ES (fun r=> .blk id (q r)) (.exit id) s m:=⟨fun r hr=>E.blkE (h.out r hr)⟩
theorem ES.blkF {i id:Nat} (h:ES q (.exit i) s m) (hn:Nat.beq i id=false:=by exact rfl):ES (fun r=> .blk id (q r)) (.exit i) s m:=⟨fun r hr=>E.blkF hn (h.out r hr)⟩
theorem ES.ret {rs:List ResultVar} {rv:β→SV} {EE:β→List Blk} {B':β→List (TypeId × List TV)} {a:β} (h:Ret N k rs (rv a) (EE a) (B' a) s):ES (fun r=> .fn (retW N k rs (rv r) (EE r) (B' r))) .ret s (M.ret a):=⟨fun r hr=>by rw [M.ret_iff.1 hr];exact E.retR h⟩
theorem ES.retN {rs:List ResultVar} {rv:β→SV} {EE:β→List Blk} {B':β→List (TypeId × List TV)} {a:β} (h:Ret N k rs (rv a) (EE a) (B' a) s):ES (fun r=> .fn (retW N k rs (rv r) (EE r) (B' r))) .normal s (M.ret a):=⟨fun r hr=>by rw [M.ret_iff.1 hr];exact E.retN h⟩
theorem Ret.weak {rs:List ResultVar} {rv:SV} {E:List Blk} {B':List (TypeId × List TV)} (hl:St.le N k s s') (h:Ret N k rs rv E B' s'):Ret N k rs rv E B' s:=let ⟨s2,h1,h2⟩:=h.out;⟨s2,hl.trans h1,h2⟩
theorem Ret.clo {rs:List ResultVar} {rv:SV} {B':List (TypeId × List TV)} (l:List WV) (h:ResOk Tryz.prog s rs l) (hB:HeapIs s 0 B') (hr:resSV l=rv:=by exact rfl) (hren:rv.ren (expRen k [])=rv:=by exact rfl) (hb:rv.below k=true:=by exact rfl):Ret N k rs rv [] B' s:=
 ⟨s,.refl s,l,[],h,by rw [hr,hren],trivial,by simpa using List.nodup_range,hB,by simpa using hb⟩
theorem fnS {f : FuncId} {fn : Func} {code : Code} {B : List (TypeId × List TV)} {B' : β → List (TypeId × List TV)} {args : List WV} {rv : β → SV} {E : β → List Blk} {rs : List ResultVar} (N : Nat) (h : VS N k code (fun r => .fn (retW N k rs (rv r) (E r) (B' r))) ⟨argSlots 0 args, lentL B⟩ m) (hf : Tryz.prog.funcs[f]? = some fn := by exact rfl) (hb : fn.body = some code := by exact rfl) (hname : (fn.name == "runtime.NumGoroutine") = false := by exact rfl) (hN : args.length + (fn.ntmps - args.length) = N := by exact rfl) (hrs : fn.results = rs.toArray := by exact rfl) (hB : ∀ r, (B' r).map (·.1) = B.map (·.1) := by exact fun _ => rfl) (hk : B.length = k := by exact rfl) (hlk : lkB B = true := by exact rfl) (hlk' : ∀ r, lkB (B' r) = true := by exact fun _ => rfl) : ∀ r, m r → FCalls Tryz.prog f B args (rv r) (E r) (B' r) :=
 fun r hr=>fnOf N hf hb hname hN hrs (hB r) hk hlk (hlk' r) (h.out r hr)
end
section
variable {N k:Nat} {β γ:Type} {q:β→Po} {s:St} {all r:List Oper} {τ:List (Option Eff)} {m m1 m2:M β} {d:Option Tmp} {ty:TypeId} {pos:String} {aft:Array Edge} {x y z:Operand} {T T' e:TypeId} {kd:IntKind} {yT ye:Ty}
theorem X.up {o:Oper} {s':St} {τ':List (Option Eff)} (h:TS N k all q r s' τ' m) (f:∀K,TRun N k all K r s' τ'→TRun N k all K (o::r) s τ):TS N k all q (o::r) s τ m:=⟨fun v hv=>f _ (h.out v hv)⟩
theorem X.chk {p:Prop} {l:List Oper} (h:p→TS N k all q l s τ m):TS N k all q l s τ (M.chk p m):=⟨fun v hv=>(h (M.chk_iff.1 hv).1).out v (M.chk_iff.1 hv).2⟩
theorem X.nil (h:ES q .normal s m) (hp:∀r,(q r).plain=true:=by exact fun _=>rfl):TS N k all q [] s τ m:=⟨fun v hv=>G.nil (hp v) (h.out v hv)⟩
theorem X.nilD {l:List Oper} {s0:St} (h:ES q .normal s m) (hd:drawB l s0 k τ.reverse=true):TS N k all (fun r=> .drw l s0 (q r)) [] s τ m:=⟨fun v hv=>G.nilD hd (h.out v hv)⟩
theorem X.op {op:Op} {ρ:Eff} (h:OStep Tryz.prog ⟨d,op,ty,pos,aft,none⟩ s.ev ρ) (hn:s.needOk ρ.need) (hw:ρ.new.all (s.freshB k)=true) (hd:dstB N d=true) (h':TS N k all q r (s.eff d ρ) (some ρ::τ) m):TS N k all q (⟨d,op,ty,pos,aft,none⟩::r) s τ m:=X.up h' fun _ hK=>G.op h hn hw hd hK
theorem X.lk {op:Op} {v:SV} {need:List (Nat × Blk)} (h':TS N k all q r (s.put d v) (some ⟨need,[],[],v⟩::τ) m) (h:stepF s op=some (v,need,True):=by exact rfl) (hd:dstB N d=true:=by exact rfl):TS N k all q (⟨d,op,ty,pos,aft,none⟩::r) s τ m:=X.up h' fun _ hK=>G.step h hd True.intro hK
theorem X.ck {op:Op} {v:SV} {need:List (Nat × Blk)} {p:Prop} (h':p→TS N k all q r (s.put d v) (some ⟨need,[],[],v⟩::τ) m) (h:stepF s op=some (v,need,p):=by exact rfl) (hd:dstB N d=true:=by exact rfl):TS N k all q (⟨d,op,ty,pos,aft,none⟩::r) s τ (M.chk p m):=X.chk fun hp=>X.up (h' hp) fun _ hK=>G.step h hd hp hK
theorem X.eqA {α:Type} [DecidableEq α] (g:α→List TV) (a b:α) (hsame:∀a b,sameR (g a) (g b)=decide (a=b)) (h:TS N k all q r (s.put d (bS (decide (a=b)))) (some ⟨[],[],[],bS (decide (a=b))⟩::τ) m) (hx:s.ev x=.w (.agg ((g a).map .v)):=by exact rfl) (hz:s.ev z=.w (.agg ((g b).map .v)):=by exact rfl) (he:eqB Tryz.prog T (g a)=true:=by kernel_rfl) (hl:likeR (g a) (g b)=true:=by exact rfl) (hd:dstB N d=true:=by exact rfl):TS N k all q (⟨d,.binOp .eql T x z T',ty,pos,aft,none⟩::r) s τ m:=by
 rw [←hsame] at h
 exact X.op (ρ:=⟨[],[],[],bS (sameR (g a) (g b))⟩) (OStep.eqAgg (P:=Tryz.prog) rfl hx hz he hl (.inl ⟨rfl,rfl⟩)) trivial rfl hd h
theorem X.neA {α:Type} [DecidableEq α] (g:α→List TV) (a b:α) (hsame:∀a b,sameR (g a) (g b)=decide (a=b)) (h:TS N k all q r (s.put d (bS (!decide (a=b)))) (some ⟨[],[],[],bS (!decide (a=b))⟩::τ) m) (hx:s.ev x=.w (.agg ((g a).map .v)):=by exact rfl) (hz:s.ev z=.w (.agg ((g b).map .v)):=by exact rfl) (he:eqB Tryz.prog T (g a)=true:=by kernel_rfl) (hl:likeR (g a) (g b)=true:=by exact rfl) (hd:dstB N d=true:=by exact rfl):TS N k all q (⟨d,.binOp .neq T x z T',ty,pos,aft,none⟩::r) s τ m:=by
 rw [←hsame] at h
 exact X.op (ρ:=⟨[],[],[],bS (!sameR (g a) (g b))⟩) (OStep.eqAgg (P:=Tryz.prog) rfl hx hz he hl (.inr ⟨rfl,rfl⟩)) trivial rfl hd h
theorem X.idxAT (n:Nat) {row:List TV} {off qn:Nat} {et:TypeId} (h:TS N k all q r (s.put d (.w (.c (.tptr row (off+n*ye.size))))) (some ⟨[],[],[],.w (.c (.tptr row (off+n*ye.size)))⟩::τ) m) (hx:s.ev x=.w (.c (.tptr row off)):=by exact rfl) (hz:s.ev z=iS kd (n:Int):=by exact rfl) (hT:tys.get T=some yT:=by exact rfl) (hs:yT.shp=.array qn et:=by exact rfl) (he:tys.get et=some ye:=by exact rfl) (hn:Nat.blt n qn=true:=by exact rfl) (hd:dstB N d=true:=by exact rfl):TS N k all q (⟨d,.indexAddr T x z,ty,pos,aft,none⟩::r) s τ m:=
 X.op (ρ:=⟨[],[],[],.w (.c (.tptr row (off+n*ye.size)))⟩) (OStep.idxAT (P:=Tryz.prog) rfl hx hz (fits hT) hs (fits he) (by simpa [Nat.blt_eq] using hn)) trivial rfl hd h
theorem X.idxAV (n:Nat) {b i off qn:Nat} {eb et:TypeId} {cells:List AV} (h:TS N k all q r (s.put d (.w (.c (.ptr b i (off+n*ye.size))))) (some ⟨[(b,.bx eb cells)],[],[],.w (.c (.ptr b i (off+n*ye.size)))⟩::τ) m) (hx:s.ev x=.w (.c (.ptr b i off)):=by exact rfl) (hb:lookH s.heap b=some (.bx eb cells):=by exact rfl) (hz:s.ev z=iS kd (n:Int):=by exact rfl) (hT:tys.get T=some yT:=by exact rfl) (hs:yT.shp=.array qn et:=by exact rfl) (he:tys.get et=some ye:=by exact rfl) (hn:Nat.blt n qn=true:=by exact rfl) (hd:dstB N d=true:=by exact rfl):TS N k all q (⟨d,.indexAddr T x z,ty,pos,aft,none⟩::r) s τ m:=
 X.up h fun _ hK=>G.idxA hx hz hb hT hs he (by simpa [Nat.blt_eq] using hn) hd hK
theorem X.lenT {α:Type} {g:α→List TV} {l:List α} (h:TS N k all q r (s.put d (iS .i64 (l.length:Int))) (some ⟨[],[],[],iS .i64 (l.length:Int)⟩::τ) m) (hx:s.ev x=tS (l.map g):=by exact rfl) (hT:tys.get T=some yT:=by exact rfl) (hs:yT.shp=.slice e:=by exact rfl) (hd:dstB N d=true:=by exact rfl):TS N k all q (⟨d,.call {callee:=.builtin .len,args:=#[x],argTypes:=#[T]},ty,pos,aft,none⟩::r) s τ m:=X.up h fun _ hK=>G.lenTM hx hT hs hd hK
theorem X.lenM {α:Type} {g:α→List TV} {l:List α} {b:Nat} {eb:TypeId} {sz:Nat} {f:Bool} (h:TS N k all q r (s.put d (iS .i64 (l.length:Int))) (some ⟨[(b,.sl eb sz f (l.map g))],[],[],iS .i64 (l.length:Int)⟩::τ) m) (hx:s.ev x=.w (.c (.mref b)):=by exact rfl) (hb:lookH s.heap b=some (.sl eb sz f (l.map g)):=by exact rfl) (hT:tys.get T=some yT:=by exact rfl) (hs:yT.shp=.slice e:=by exact rfl) (hd:dstB N d=true:=by exact rfl):TS N k all q (⟨d,.call {callee:=.builtin .len,args:=#[x],argTypes:=#[T]},ty,pos,aft,none⟩::r) s τ m:=X.up h fun _ hK=>G.lenMM hx hb hT hs hd hK
theorem X.idxT {α:Type} [Inhabited α] {g:α→List TV} {l:List α} {i:Int} (h:0≤i∧i<(l.length:Int)→TS N k all q r (s.put d (.w (.c (.tptr (g (atD l i)) 0)))) (some ⟨[],[],[],.w (.c (.tptr (g (atD l i)) 0))⟩::τ) m) (hx:s.ev x=tS (l.map g):=by exact rfl) (hz:s.ev z=iS kd i:=by exact rfl) (hT:tys.get T=some yT:=by exact rfl) (hs:yT.shp=.slice e:=by exact rfl) (he:tys.get e=some ye:=by exact rfl) (hsz:∀v,(g v).length=ye.size:=by exact fun _=>rfl) (hd:dstB N d=true:=by exact rfl):TS N k all q (⟨d,.indexAddr T x z,ty,pos,aft,none⟩::r) s τ (M.chk (0≤i∧i<(l.length:Int)) m):=
 X.chk fun hi=>X.up (h hi) fun _ hK=>U.idxT (n:=i.toNat) hx hz (Int.toNat_of_nonneg hi.1).symm (atD_get hi) hT hs he (hsz _) hd hK
theorem X.idxM {α:Type} {g:α→List TV} {l:List α} {i:Int} {b:Nat} {eb:TypeId} {sz:Nat} {f:Bool} (h:0≤i∧i<(l.length:Int)→TS N k all q r (s.put d (.w (.c (.ptr b i.toNat 0)))) (some ⟨[(b,.sl eb sz f (l.map g))],[],[],.w (.c (.ptr b i.toNat 0))⟩::τ) m) (hx:s.ev x=.w (.c (.mref b)):=by exact rfl) (hb:lookH s.heap b=some (.sl eb sz f (l.map g)):=by exact rfl) (hz:s.ev z=iS kd i:=by exact rfl) (hT:tys.get T=some yT:=by exact rfl) (hs:yT.shp=.slice e:=by exact rfl) (he:tys.get e=some ye:=by exact rfl) (hsz:sz=ye.size:=by exact rfl) (hd:dstB N d=true:=by exact rfl):TS N k all q (⟨d,.indexAddr T x z,ty,pos,aft,none⟩::r) s τ (M.chk (0≤i∧i<(l.length:Int)) m):=
 X.chk fun hi=>X.up (h hi) fun _ hK=>U.idxM (n:=i.toNat) hx hz hb (Int.toNat_of_nonneg hi.1).symm (by rw [List.length_map];omega) hT hs he hsz hd hK
theorem X.ld {α:Type} [Inhabited α] {g:α→List TV} {l:List α} {i:Int} {b off:Nat} {eb:TypeId} {sz:Nat} {f:Bool} {v:WV} (hi:0≤i∧i<(l.length:Int)) (h:TS N k all q r (s.put d (.w v)) (some ⟨[(b,.sl eb sz f (l.map g))],[],[],.w v⟩::τ) m) (hx:s.ev x=.w (.c (.ptr b i.toNat off)):=by exact rfl) (hb:lookH s.heap b=some (.sl eb sz f (l.map g)):=by exact rfl) (hT:tys.get T=some yT:=by exact rfl) (hr:cut yT ((g (atD l i)).map .v) off=some v:=by exact rfl) (hd:dstB N d=true:=by exact rfl):TS N k all q (⟨d,.load T x,ty,pos,aft,none⟩::r) s τ m:=
 X.up h fun _ hK=>G.loadSl hx hb (by rw [List.getElem?_map,atD_get hi];rfl) hT hr hd hK
theorem X.set {α:Type} [Inhabited α] {g:α→List TV} {l:List α} {i:Int} (nv:α) {b off:Nat} {eb:TypeId} {sz:Nat} {w:WV} {vs:List TV} (hi:0≤i∧i<(l.length:Int)) (h:TS N k all q r (s.eff d ⟨[(b,.sl eb sz false (l.map g))],[],[(b,some (.sl eb sz false ((setD l i nv).map g)))],SV.any⟩) (some ⟨[(b,.sl eb sz false (l.map g))],[],[(b,some (.sl eb sz false ((setD l i nv).map g)))],SV.any⟩::τ) m) (hx:s.ev x=.w (.c (.ptr b i.toNat off)):=by exact rfl) (hb:lookH s.heap b=some (.sl eb sz false (l.map g)):=by exact rfl) (hz:s.ev z=.w w:=by exact rfl) (hv:w.closed=some vs:=by exact rfl) (hg:g nv=putAt (g (atD l i)) off vs:=by exact rfl) (hT:tys.get T=some yT:=by exact rfl) (hl:vs.length=yT.size:=by exact rfl) (hle:Nat.ble (off+vs.length) (g (atD l i)).length=true:=by exact rfl) (hd:dstB N d=true:=by exact rfl):TS N k all q (⟨d,.store T x z,ty,pos,aft,none⟩::r) s τ m:=
 X.up h fun _ hK=>U.storeM (u:=atD l i) (v:=nv) hx hb hz hv (atD_get hi) hg hT hl hle hd hK
theorem X.st {b i off:Nat} {eb:TypeId} {cells:List AV} {v:WV} (h:TS N k all q r (s.eff d ⟨[(b,.bx eb cells)],[],[(b,some (.bx eb ((putAt cells off v.cells).map tzA)))],SV.any⟩) (some ⟨[(b,.bx eb cells)],[],[(b,some (.bx eb ((putAt cells off v.cells).map tzA)))],SV.any⟩::τ) m) (hx:s.ev x=.w (.c (.ptr b i off)):=by exact rfl) (hb:lookH s.heap b=some (.bx eb cells):=by exact rfl) (hz:s.ev z=.w v:=by exact rfl) (hT:tys.get T=some yT:=by exact rfl) (hok:v.ok=true:=by exact rfl) (hl:v.cells.length=yT.size:=by exact rfl) (hle:Nat.ble (off+yT.size) cells.length=true:=by exact rfl) (hd:dstB N d=true:=by exact rfl):TS N k all q (⟨d,.store T x z,ty,pos,aft,none⟩::r) s τ m:=by
 refine X.op (OStep.tz (P:=Tryz.prog) (OStep.storeBx (P:=Tryz.prog) (o:=⟨d,.store T x z,ty,pos,aft,none⟩) rfl hx hz (fits hT) hok hl (Nat.le_of_ble_eq_true hle))) ⟨hb,trivial⟩ rfl hd ?_
 exact h
theorem X.alloc (nb:Nat) (h:TS N k all q r (s.eff d ⟨[],[nb],[(nb,some (.bx T ((yT.zero.map .v).map tzA)))],.w (.c (.ptr nb 0 0))⟩) (some ⟨[],[nb],[(nb,some (.bx T ((yT.zero.map .v).map tzA)))],.w (.c (.ptr nb 0 0))⟩::τ) m) (hT:tys.get T=some yT:=by exact rfl) (hz:yT.zero.isEmpty=false:=by exact rfl) (hw:s.freshB k nb=true:=by exact rfl) (hd:dstB N d=true:=by exact rfl):TS N k all q (⟨d,.alloc T,ty,pos,aft,none⟩::r) s τ m:=by
 refine X.op (OStep.tz (P:=Tryz.prog) (OStep.alloc (P:=Tryz.prog) (b:=nb) (o:=⟨d,.alloc T,ty,pos,aft,none⟩) rfl (fits hT) (by intro e;rw [e] at hz;cases hz))) trivial (by simpa [tzE] using hw) hd ?_
 exact h
theorem X.box (nb:Nat) {v:WV} (h:TS N k all q r (s.eff d ⟨[],[nb],[(nb,some (.bx T (v.cells.map tzA)))],.w (.c (.ptr nb 0 0))⟩) (some ⟨[],[nb],[(nb,some (.bx T (v.cells.map tzA)))],.w (.c (.ptr nb 0 0))⟩::τ) m) (hx:s.ev x=.w v:=by exact rfl) (hok:v.ok=true:=by exact rfl) (hm:v.cells.any (AV.ment nb)=false:=by exact rfl) (hw:s.freshB k nb=true:=by exact rfl) (hd:dstB N d=true:=by exact rfl):TS N k all q (⟨d,.box T x,ty,pos,aft,none⟩::r) s τ m:=by
 refine X.op (OStep.tz (P:=Tryz.prog) (OStep.box (P:=Tryz.prog) (o:=⟨d,.box T x,ty,pos,aft,none⟩) rfl hx hok hm)) trivial (by simpa [tzE] using hw) hd ?_
 exact h
theorem X.build {parts:List (Nat × Operand)} {lp:List (Nat × WV)} {l:List (Nat × Nat × TypeId)} {cells:List AV} (h:TS N k all q r (s.put d (.w (.agg (cells.map tzA)))) (some ⟨[],[],[],.w (.agg (cells.map tzA))⟩::τ) m) (hT:tys.get T=some yT:=by exact rfl) (hs:yT.shp=.struct l:=by exact rfl) (hz:yT.zero.isEmpty=false:=by exact rfl) (hnz:l.all (fun x=>x.2.1 !=0)=true:=by exact rfl) (hpa:partsA s.ev parts=some lp:=by exact rfl) (hr:fillA (placeS l) (yT.zero.map .v) lp=some cells:=by exact rfl) (hd:dstB N d=true:=by exact rfl):TS N k all q (⟨d,.build T parts.toArray,ty,pos,aft,none⟩::r) s τ m:=by
 refine X.op (OStep.tz (P:=Tryz.prog) (OStep.build (P:=Tryz.prog) (o:=⟨d,.build T parts.toArray,ty,pos,aft,none⟩) rfl (fits hT) hs (by intro e;rw [e] at hz;cases hz) hnz hpa hr)) trivial rfl hd ?_
 exact h
theorem X.buildA {parts:List (Nat × Operand)} {lp:List (Nat × WV)} {qn:Nat} {et:TypeId} {cells:List AV} (h:TS N k all q r (s.put d (.w (.agg (cells.map tzA)))) (some ⟨[],[],[],.w (.agg (cells.map tzA))⟩::τ) m) (hT:tys.get T=some yT:=by exact rfl) (hs:yT.shp=.array qn et:=by exact rfl) (he:tys.get et=some ye:=by exact rfl) (hz:yT.zero.isEmpty=false:=by exact rfl) (hpa:partsA s.ev parts=some lp:=by exact rfl) (hr:fillA (fun i=>some (i*ye.size,ye.size)) (yT.zero.map .v) lp=some cells:=by exact rfl) (hd:dstB N d=true:=by exact rfl):TS N k all q (⟨d,.build T parts.toArray,ty,pos,aft,none⟩::r) s τ m:=by
 refine X.op (OStep.tz (P:=Tryz.prog) (OStep.buildArr (P:=Tryz.prog) (o:=⟨d,.build T parts.toArray,ty,pos,aft,none⟩) rfl (fits hT) hs (fits he) (by intro e;rw [e] at hz;cases hz) hpa hr)) trivial rfl hd ?_
 exact h
theorem X.bs (nb:Nat) {α:Type} (l:List α) (g:α→List TV) {nn:Nat} {parts:List (Nat × Operand)} {lp:List (Nat × WV)} {rows:List (List TV)} (h:TS N k all q r (s.eff d ⟨[],[nb],[(nb,some (.sl e ye.size false (l.map g)))],.w (.c (.mref nb))⟩) (some ⟨[],[nb],[(nb,some (.sl e ye.size false (l.map g)))],.w (.c (.mref nb))⟩::τ) m) (hT:tys.get T=some yT:=by exact rfl) (hs:yT.shp=.slice e:=by exact rfl) (he:tys.get e=some ye:=by exact rfl) (hz:ye.zero.length=ye.size:=by exact rfl) (h0:Nat.blt 0 ye.size=true:=by exact rfl) (hpa:partsA s.ev parts=some lp:=by exact rfl) (hr:rowsA 0 lp=some rows:=by exact rfl) (hlg:(rows.map fun row=>row.map tz)=l.map g:=by exact rfl) (hsz:rows.all (fun row=>Nat.beq row.length ye.size)=true:=by exact rfl) (hn:rows.length=nn:=by exact rfl) (hc:Nat.ble (nn*ye.size) 16777216=true:=by exact rfl) (hw:s.freshB k nb=true:=by exact rfl) (hd:dstB N d=true:=by exact rfl):TS N k all q (⟨d,.buildSlice T nn parts.toArray,ty,pos,aft,none⟩::r) s τ m:=by
 refine X.op (OStep.tz (P:=Tryz.prog) (OStep.buildSlice (P:=Tryz.prog) (nb:=nb) (o:=⟨d,.buildSlice T nn parts.toArray,ty,pos,aft,none⟩) rfl (fits hT) hs (fits he) hz (by simpa [Nat.blt_eq] using h0) hpa hr (fun row hrow=>Nat.eq_of_beq_eq_true (List.all_eq_true.1 hsz row hrow)) hn (Nat.le_of_ble_eq_true hc))) trivial (by simpa [tzE] using hw) hd ?_
 show TS N k all q r (s.eff d ⟨[],[nb],[(nb,some (.sl e ye.size false (rows.map fun row=>row.map tz)))],.w (.c (.mref nb))⟩) (some ⟨[],[nb],[(nb,some (.sl e ye.size false (rows.map fun row=>row.map tz)))],.w (.c (.mref nb))⟩::τ) m
 rw [hlg];exact h
theorem X.make (nb:Nat) {α:Type} [Inhabited α] (g:α→List TV) {n:Int} {kd':IntKind} (h:0≤n∧n<1000000000000→TS N k all q r (s.eff d ⟨[],[nb],[(nb,some (.sl e ye.size false ((repD n:List α).map g)))],.w (.c (.mref nb))⟩) (some ⟨[],[nb],[(nb,some (.sl e ye.size false ((repD n:List α).map g)))],.w (.c (.mref nb))⟩::τ) m) (hx:s.ev x=iS kd n:=by exact rfl) (hz':s.ev z=iS kd' n:=by exact rfl) (hT:tys.get T=some yT:=by exact rfl) (hs:yT.shp=.slice e:=by exact rfl) (he:tys.get e=some ye:=by exact rfl) (hg:ye.zero.map tz=g default:=by exact rfl) (hz:ye.zero.length=ye.size:=by exact rfl) (h0:Nat.blt 0 ye.size=true:=by exact rfl) (hby:Nat.ble ye.bytes 128=true:=by exact rfl) (hw:s.freshB k nb=true:=by exact rfl) (hd:dstB N d=true:=by exact rfl):TS N k all q (⟨d,.makeSlice T x z,ty,pos,aft,none⟩::r) s τ (M.chk (0≤n∧n<1000000000000) m):=by
 refine X.chk fun hn=>?_
 have h1:ye.bytes≤128:=Nat.le_of_ble_eq_true hby
 have h2:ye.bytes*n.toNat≤128*n.toNat:=Nat.mul_le_mul_right _ h1
 have hb:ye.bytes*n.toNat≤281474976710656:=by omega
 have hm:n.toNat≤maxLen:=by simp only [maxLen];omega
 have hn1:(n.toNat:Int)=n:=Int.toNat_of_nonneg hn.1
 refine X.op (OStep.tz (P:=Tryz.prog) (OStep.make (P:=Tryz.prog) (nb:=nb) (n:=n.toNat) (o:=⟨d,.makeSlice T x z,ty,pos,aft,none⟩) rfl (by rw [hn1];exact hx) (by rw [hn1];exact hz') (fits hT) hs (fits he) hz (by simpa [Nat.blt_eq] using h0) hb hm)) trivial (by simpa [tzE] using hw) hd ?_
 show TS N k all q r (s.eff d ⟨[],[nb],[(nb,some (.sl e ye.size false ((List.replicate n.toNat ye.zero).map fun row=>row.map tz)))],.w (.c (.mref nb))⟩) (some ⟨[],[nb],[(nb,some (.sl e ye.size false ((List.replicate n.toNat ye.zero).map fun row=>row.map tz)))],.w (.c (.mref nb))⟩::τ) m
 have e1:((List.replicate n.toNat ye.zero).map fun row=>row.map tz)=(repD n:List α).map g:=by unfold repD;rw [List.map_replicate,List.map_replicate,hg]
 rw [e1];exact h hn
theorem X.makeT (nb:Nat) {α:Type} [Inhabited α] (g:α→List TV) {n:Int} {kd':IntKind} (h:0≤n∧n<1000000000000→TS N k all q r (s.eff d ⟨[],[nb],[(nb,none)],tS ((repD n:List α).map g)⟩) (some ⟨[],[nb],[(nb,none)],tS ((repD n:List α).map g)⟩::τ) m) (hx:s.ev x=iS kd n:=by exact rfl) (hz':s.ev z=iS kd' n:=by exact rfl) (hT:tys.get T=some yT:=by exact rfl) (hs:yT.shp=.slice e:=by exact rfl) (he:tys.get e=some ye:=by exact rfl) (hg:ye.zero.map tz=g default:=by exact rfl) (hz:ye.zero.length=ye.size:=by exact rfl) (h0:Nat.blt 0 ye.size=true:=by exact rfl) (hby:Nat.ble ye.bytes 128=true:=by exact rfl) (hw:s.freshB k nb=true:=by exact rfl) (hd:dstB N d=true:=by exact rfl):TS N k all q (⟨d,.makeSlice T x z,ty,pos,aft,none⟩::r) s τ (M.chk (0≤n∧n<1000000000000) m):=by
 refine X.chk fun hn=>?_
 have h1:ye.bytes≤128:=Nat.le_of_ble_eq_true hby
 have h2:ye.bytes*n.toNat≤128*n.toNat:=Nat.mul_le_mul_right _ h1
 have hb:ye.bytes*n.toNat≤281474976710656:=by omega
 have hm:n.toNat≤maxLen:=by simp only [maxLen];omega
 have hn1:(n.toNat:Int)=n:=Int.toNat_of_nonneg hn.1
 have e1:((List.replicate n.toNat ye.zero).map fun row=>row.map tz)=(repD n:List α).map g:=by unfold repD;rw [List.map_replicate,List.map_replicate,hg]
 refine X.op (ρ:=⟨[],[nb],[(nb,none)],tS ((repD n:List α).map g)⟩) (OStep.close (U:=[]) (e:=e) (sz:=ye.size) (rows:=(repD n:List α).map g) ?_) trivial (by simpa using hw) hd (h hn)
 rw [←e1]
 exact OStep.tz (P:=Tryz.prog) (OStep.make (P:=Tryz.prog) (nb:=nb) (n:=n.toNat) (o:=⟨d,.makeSlice T x z,ty,pos,aft,none⟩) rfl (by rw [hn1];exact hx) (by rw [hn1];exact hz') (fits hT) hs (fits he) hz (by simpa [Nat.blt_eq] using h0) hb hm)
theorem X.appMM (nb:Nat) {α:Type} {g:α→List TV} {l l':List α} {b c:Nat} {eb ec:TypeId} {sz:Nat} {f:Bool} (h:l.length+l'.length<1000000000000→TS N k all q r (s.eff d ⟨[(b,.sl eb ye.size false (l.map g)),(c,.sl ec ye.size f (l'.map g))],[nb],[(b,none),(nb,some (.sl eb ye.size false ((l++l').map g)))],.w (.c (.mref nb))⟩) (some ⟨[(b,.sl eb ye.size false (l.map g)),(c,.sl ec ye.size f (l'.map g))],[nb],[(b,none),(nb,some (.sl eb ye.size false ((l++l').map g)))],.w (.c (.mref nb))⟩::τ) m) (hx:s.ev x=.w (.c (.mref b)):=by exact rfl) (hbk:lookH s.heap b=some (.sl eb sz false (l.map g)):=by exact rfl) (hz':s.ev z=.w (.c (.mref c)):=by exact rfl) (hT:tys.get T=some yT:=by exact rfl) (hs:yT.shp=.slice eb:=by exact rfl) (he:tys.get eb=some ye:=by exact rfl) (hck:lookH s.heap c=some (.sl ec ye.size f (l'.map g)):=by exact rfl) (hsz:sz=ye.size:=by exact rfl) (hz:ye.zero.length=ye.size:=by exact rfl) (h0:Nat.blt 0 ye.size=true:=by exact rfl) (hby:Nat.blt 0 ye.bytes=true:=by exact rfl) (hby':Nat.ble ye.bytes 128=true:=by exact rfl) (hw:s.freshB k nb=true:=by exact rfl) (hd:dstB N d=true:=by exact rfl):TS N k all q (⟨d,.call {callee:=.builtin .append,args:=#[x,z],argTypes:=#[T,T]},ty,pos,aft,none⟩::r) s τ (M.chk (l.length+l'.length<1000000000000) m):=by
 refine X.chk fun hl=>X.up (h hl) fun _ hK=>G.appM nb hx hbk hT hs he hsz hz h0 hby (.own c ec f (l'.map g) hz') ⟨hck,trivial⟩ ?_ hw hd ?_
 ·have h1:ye.bytes≤128:=Nat.le_of_ble_eq_true hby'
  rw [List.length_map,List.length_map]
  have h2:(l.length+l'.length)*ye.bytes≤(l.length+l'.length)*128:=Nat.mul_le_mul_left _ h1
  omega
 ·rw [←List.map_append];exact hK
theorem X.appMT (nb:Nat) {α:Type} {g:α→List TV} {l l':List α} {b:Nat} {eb:TypeId} {sz:Nat} (h:l.length+l'.length<1000000000000→TS N k all q r (s.eff d ⟨[(b,.sl eb ye.size false (l.map g))],[nb],[(b,none),(nb,some (.sl eb ye.size false ((l++l').map g)))],.w (.c (.mref nb))⟩) (some ⟨[(b,.sl eb ye.size false (l.map g))],[nb],[(b,none),(nb,some (.sl eb ye.size false ((l++l').map g)))],.w (.c (.mref nb))⟩::τ) m) (hx:s.ev x=.w (.c (.mref b)):=by exact rfl) (hbk:lookH s.heap b=some (.sl eb sz false (l.map g)):=by exact rfl) (hz':s.ev z=tS (l'.map g):=by exact rfl) (hT:tys.get T=some yT:=by exact rfl) (hs:yT.shp=.slice eb:=by exact rfl) (he:tys.get eb=some ye:=by exact rfl) (hsz:sz=ye.size:=by exact rfl) (hg:∀v,(g v).length=ye.size:=by exact fun _=>rfl) (hz:ye.zero.length=ye.size:=by exact rfl) (h0:Nat.blt 0 ye.size=true:=by exact rfl) (hby:Nat.blt 0 ye.bytes=true:=by exact rfl) (hby':Nat.ble ye.bytes 128=true:=by exact rfl) (hw:s.freshB k nb=true:=by exact rfl) (hd:dstB N d=true:=by exact rfl):TS N k all q (⟨d,.call {callee:=.builtin .append,args:=#[x,z],argTypes:=#[T,T]},ty,pos,aft,none⟩::r) s τ (M.chk (l.length+l'.length<1000000000000) m):=by
 refine X.chk fun hl=>X.up (h hl) fun _ hK=>G.appM nb (rows':=l'.map g) hx hbk hT hs he hsz hz h0 hby (.tree _ hz' fun row hrow=>?_) trivial ?_ hw hd ?_
 ·obtain ⟨v,_,rfl⟩:=List.mem_map.1 hrow
  exact hg v
 ·have h1:ye.bytes≤128:=Nat.le_of_ble_eq_true hby'
  rw [List.length_map,List.length_map]
  have h2:(l.length+l'.length)*ye.bytes≤(l.length+l'.length)*128:=Nat.mul_le_mul_left _ h1
  omega
 ·rw [←List.map_append];exact hK
theorem X.appNT (nb:Nat) {α:Type} {g:α→List TV} {l':List α} (h:l'.length<1000000000000→TS N k all q r (s.eff d ⟨[],[nb],[(nb,some (.sl e ye.size false (l'.map g)))],.w (.c (.mref nb))⟩) (some ⟨[],[nb],[(nb,some (.sl e ye.size false (l'.map g)))],.w (.c (.mref nb))⟩::τ) m) (hx:s.ev x=nS:=by exact rfl) (hz':s.ev z=tS (l'.map g):=by exact rfl) (hT:tys.get T=some yT:=by exact rfl) (hs:yT.shp=.slice e:=by exact rfl) (he:tys.get e=some ye:=by exact rfl) (hg:∀v,(g v).length=ye.size:=by exact fun _=>rfl) (hz:ye.zero.length=ye.size:=by exact rfl) (h0:Nat.blt 0 ye.size=true:=by exact rfl) (hby:Nat.blt 0 ye.bytes=true:=by exact rfl) (hby':Nat.ble ye.bytes 128=true:=by exact rfl) (hw:s.freshB k nb=true:=by exact rfl) (hd:dstB N d=true:=by exact rfl):TS N k all q (⟨d,.call {callee:=.builtin .append,args:=#[x,z],argTypes:=#[T,T]},ty,pos,aft,none⟩::r) s τ (M.chk (l'.length<1000000000000) m):=by
 refine X.chk fun hl=>X.up (h hl) fun _ hK=>G.appN nb hx hT hs he hz h0 hby (.tree _ hz' fun row hrow=>?_) trivial ?_ hw hd hK
 ·obtain ⟨v,_,rfl⟩:=List.mem_map.1 hrow
  exact hg v
 ·have h1:ye.bytes≤128:=Nat.le_of_ble_eq_true hby'
  rw [List.length_map]
  have h2:l'.length*ye.bytes≤l'.length*128:=Nat.mul_le_mul_left _ h1
  omega
def loI:Option Int→Int
 | some i=>i
 | none=>0
def hiI (n:Nat):Option Int→Int
 | some i=>i
 | none=>n
def optI (s:St):Option Operand→Option Int→Prop
 | some x,some i=>∃kd,s.ev x=iS kd i
 | none,none=>True
 | _,_=>False
theorem X.sliceT (lo hi:Option Int) {xl xh:Option Operand} {α:Type} {g:α→List TV} {l:List α} (h:0≤loI lo∧loI lo≤hiI l.length hi∧hiI l.length hi≤(l.length:Int)→TS N k all q r (s.put d (tS ((sliceD l (loI lo) (hiI l.length hi)).map g))) (some ⟨[],[],[],tS ((sliceD l (loI lo) (hiI l.length hi)).map g)⟩::τ) m) (hxl:optI s xl lo) (hxh:optI s xh hi) (hx:s.ev x=tS (l.map g):=by exact rfl) (hT:tys.get T=some yT:=by exact rfl) (hs:yT.shp=.slice e:=by exact rfl) (he:tys.get e=some ye:=by exact rfl) (hsz:∀v,(g v).length=ye.size:=by exact fun _=>rfl) (hd:dstB N d=true:=by exact rfl):TS N k all q (⟨d,.slice T x xl xh none,ty,pos,aft,none⟩::r) s τ (M.chk (0≤loI lo∧loI lo≤hiI l.length hi∧hiI l.length hi≤(l.length:Int)) m):=by
 refine X.chk fun hc=>?_
 have e1:(((l.map g).drop (loI lo).toNat).take ((hiI l.length hi).toNat- (loI lo).toNat))=(sliceD l (loI lo) (hiI l.length hi)).map g:=by unfold sliceD;rw [List.map_take,List.map_drop]
 refine X.up (h hc) fun _ hK=>G.sliceT (l:=(loI lo).toNat) (q:=(hiI l.length hi).toNat) hx hT hs he (fun row hrow=>by obtain ⟨v,_,rfl⟩:=List.mem_map.1 hrow;exact hsz v) ?_ hd (by rw [e1];exact hK)
 rw [List.length_map]
 refine ⟨?_,?_,?_,?_⟩
 ·cases lo with
  | none=>cases xl with
    | none=>rfl
    | some _=>exact hxl.elim
  | some i=>cases xl with
    | none=>exact hxl.elim
    | some o=>obtain ⟨kd,hk⟩:=hxl;exact ⟨kd,by rw [hk];simp only [loI] at hc ⊢;rw [Int.toNat_of_nonneg hc.1]⟩
 ·cases hi with
  | none=>cases xh with
    | none=>simp [hiI]
    | some _=>exact hxh.elim
  | some i=>cases xh with
    | none=>exact hxh.elim
    | some o=>obtain ⟨kd,hk⟩:=hxh;exact ⟨kd,by rw [hk];simp only [hiI] at hc ⊢;rw [Int.toNat_of_nonneg (by omega)]⟩
 ·omega
 ·omega
theorem X.convI {i:Int} (h:okI i→TS N k all q r (s.put d (iS .i64 i)) (some ⟨[],[],[],iS .i64 i⟩::τ) m) (hx:s.ev x=iS kd i:=by exact rfl) (hT:(tys.get T).map (·.shp)=some (.int kd):=by exact rfl) (hT':(tys.get T').map (·.shp)=some (.int .i64):=by exact rfl) (hd:dstB N d=true:=by exact rfl):TS N k all q (⟨d,.convert T T' x,ty,pos,aft,none⟩::r) s τ (M.chk (okI i) m):=X.chk fun hi=>X.up (h hi) fun _ hK=>U.convI hx hT hT' hi hd hK
theorem X.convU {i:Int} (h:0≤i∧i≤18446744073709551615→TS N k all q r (s.put d (iS .u64 i)) (some ⟨[],[],[],iS .u64 i⟩::τ) m) (hx:s.ev x=iS kd i:=by exact rfl) (hT:(tys.get T).map (·.shp)=some (.int kd):=by exact rfl) (hT':(tys.get T').map (·.shp)=some (.int .u64):=by exact rfl) (hd:dstB N d=true:=by exact rfl):TS N k all q (⟨d,.convert T T' x,ty,pos,aft,none⟩::r) s τ (M.chk (0≤i∧i≤18446744073709551615) m):=X.chk fun hi=>X.up (h hi) fun _ hK=>U.convU hx hT hT' hi hd hK
theorem X.max {i j:Int} {Ts:Array TypeId} (h:TS N k all q r (s.put d (iS .i64 (max i j))) (some ⟨[],[],[],iS .i64 (max i j)⟩::τ) m) (hx:s.ev x=iS .i64 i:=by exact rfl) (hy:s.ev y=iS .i64 j:=by exact rfl) (hd:dstB N d=true:=by exact rfl):TS N k all q (⟨d,.call {callee:=.builtin .max,args:=#[x,y],argTypes:=Ts},ty,pos,aft,none⟩::r) s τ m:=X.up h fun _ hK=>G.max hx hy hd hK
theorem X.min {i j:Int} {Ts:Array TypeId} (h:TS N k all q r (s.put d (iS .i64 (min i j))) (some ⟨[],[],[],iS .i64 (min i j)⟩::τ) m) (hx:s.ev x=iS .i64 i:=by exact rfl) (hy:s.ev y=iS .i64 j:=by exact rfl) (hd:dstB N d=true:=by exact rfl):TS N k all q (⟨d,.call {callee:=.builtin .min,args:=#[x,y],argTypes:=Ts},ty,pos,aft,none⟩::r) s τ m:=X.up h fun _ hK=>G.min hx hy hd hK
theorem X.shlU {i j:Int} (h:0≤j∧j≤64∧(0≤i*2 ^ j.toNat∧i*2 ^ j.toNat≤18446744073709551615)→TS N k all q r (s.put d (iS .u64 (i*2 ^ j.toNat))) (some ⟨[],[],[],iS .u64 (i*2 ^ j.toNat)⟩::τ) m) (hx:s.ev x=iS .u64 i:=by exact rfl) (hy:s.ev y=iS kd j:=by exact rfl) (hd:dstB N d=true:=by exact rfl):TS N k all q (⟨d,.binOp .shl T x y T',ty,pos,aft,none⟩::r) s τ (M.chk (0≤j∧j≤64∧(0≤i*2 ^ j.toNat∧i*2 ^ j.toNat≤18446744073709551615)) m):=X.chk fun hi=>X.up (h hi) fun _ hK=>U.shlU hx hy hi.1 hi.2.1 hi.2.2 hd hK
theorem X.shr {i j:Int} {kd':IntKind} (h:0≤j∧j≤64→TS N k all q r (s.put d (iS kd (i / 2 ^ j.toNat))) (some ⟨[],[],[],iS kd (i / 2 ^ j.toNat)⟩::τ) m) (hk:kd=.i64∨kd=.u64) (hx:s.ev x=iS kd i:=by exact rfl) (hy:s.ev y=iS kd' j:=by exact rfl) (hd:dstB N d=true:=by exact rfl):TS N k all q (⟨d,.binOp .shr T x y T',ty,pos,aft,none⟩::r) s τ (M.chk (0≤j∧j≤64) m):=X.chk fun hi=>X.up (h hi) fun _ hK=>G.shr hx hy hi.1 hi.2 hk hd hK
theorem X.subU {i j:Int} (h:0≤i- j∧i- j≤18446744073709551615→TS N k all q r (s.put d (iS .u64 (i- j))) (some ⟨[],[],[],iS .u64 (i- j)⟩::τ) m) (hx:s.ev x=iS .u64 i:=by exact rfl) (hy:s.ev y=iS .u64 j:=by exact rfl) (hd:dstB N d=true:=by exact rfl):TS N k all q (⟨d,.binOp .sub T x y T',ty,pos,aft,none⟩::r) s τ (M.chk (0≤i- j∧i- j≤18446744073709551615) m):=X.chk fun hi=>X.up (h hi) fun _ hK=>U.subU hx hy hi hd hK
theorem X.addU {i j:Int} (h:0≤i+j∧i+j≤18446744073709551615→TS N k all q r (s.put d (iS .u64 (i+j))) (some ⟨[],[],[],iS .u64 (i+j)⟩::τ) m) (hx:s.ev x=iS .u64 i:=by exact rfl) (hy:s.ev y=iS .u64 j:=by exact rfl) (hd:dstB N d=true:=by exact rfl):TS N k all q (⟨d,.binOp .add T x y T',ty,pos,aft,none⟩::r) s τ (M.chk (0≤i+j∧i+j≤18446744073709551615) m):=X.chk fun hi=>X.up (h hi) fun _ hK=>U.addU hx hy hi hd hK
theorem X.gU {op:Op} {j dg:Nat} {want:Bool} (h:TS N k all q r (s.put d uS) (none::τ) m) (hd:(all[j]?).bind (·.dst)=some dg:=by exact rfl) (hb:lookS s.slots dg=uS:=by exact rfl) (hN:dstB N d=true:=by exact rfl):TS N k all q (⟨d,op,ty,pos,aft,some (j,want)⟩::r) s τ m:=X.up h fun _ hK=>G.guardU hd hb hN hK
theorem X.gY {op:Op} {j dg:Nat} {want b:Bool} (hbw:b=want) (h:TS N k all q (⟨d,op,ty,pos,aft,none⟩::r) s τ m) (hd:(all[j]?).bind (·.dst)=some dg:=by exact rfl) (hb:lookS s.slots dg=bS b:=by exact rfl) (hN:dstB N d=true:=by exact rfl):TS N k all q (⟨d,op,ty,pos,aft,some (j,want)⟩::r) s τ m:=⟨fun v hv=>G.guardT hd hb hbw hN (h.out v hv)⟩
theorem X.gN {op:Op} {j dg:Nat} {want b:Bool} (hbw:b= !want) (h:TS N k all q r (s.put d uS) (none::τ) m) (hd:(all[j]?).bind (·.dst)=some dg:=by exact rfl) (hb:lookS s.slots dg=bS b:=by exact rfl) (hN:dstB N d=true:=by exact rfl):TS N k all q (⟨d,op,ty,pos,aft,some (j,want)⟩::r) s τ m:=X.up h fun _ hK=>G.guardF hd hb hbw hN hK
theorem X.bif {b:Bool} {l:List Oper} (h1:b=true→TS N k all q l s τ m1) (h2:b=false→TS N k all q l s τ m2):TS N k all q l s τ (M.bif b m1 m2):=⟨fun v hv=>by
 rcases M.bif_iff.1 hv with ⟨h,h3⟩| ⟨h,h3⟩
 ·exact (h1 h).out v h3
 ·exact (h2 h).out v h3⟩
theorem X.pT {b:Bool} {c:Operand} {v:SV} (hb:b=true) (h:TS N k all q r (s.put d v) (some ⟨[],[],[],v⟩::τ) m) (hc:s.ev c=bS b:=by exact rfl) (hx:s.ev x=v:=by exact rfl) (hd:dstB N d=true:=by exact rfl):TS N k all q (⟨d,.pick c x y,ty,pos,aft,none⟩::r) s τ m:=X.up h fun _ hK=>G.pickT hb hc hx hd hK
theorem X.pF {b:Bool} {c:Operand} {v:SV} (hb:b=false) (h:TS N k all q r (s.put d v) (some ⟨[],[],[],v⟩::τ) m) (hc:s.ev c=bS b:=by exact rfl) (hy:s.ev y=v:=by exact rfl) (hd:dstB N d=true:=by exact rfl):TS N k all q (⟨d,.pick c x y,ty,pos,aft,none⟩::r) s τ m:=X.up h fun _ hK=>G.pickF hb hc hy hd hK
def scT:TV→Bool
 | .int .. =>true
 | .bool _=>true
 | _=>false
def scA:AV→Bool
 | .v t=>scT t
 | _=>false
def scW:WV→Bool
 | .c a=>scA a
 | .agg l=>l.all scA
def scS:SV→Bool
 | .w x=>scW x
 | .tup l=>l.all scW
theorem scT_ok {t:TV} (h:scT t=true):t.sc:=by cases t<;>first| exact trivial| cases h
theorem scA_ok {a:AV} (h:scA a=true):a.sc:=by
 cases a<;>first| exact scT_ok h| cases h
theorem scW_ok {x:WV} (h:scW x=true):x.sc:=by
 cases x with
 | c a=>exact scA_ok h
 | agg l=>exact fun a ha=>scA_ok (List.all_eq_true.1 h a ha)
theorem scS_ok {x:SV} (h:scS x=true):x.sc:=by
 cases x with
 | w x=>exact scW_ok h
 | tup l=>exact fun y hy=>scW_ok (List.all_eq_true.1 h y hy)
def nodupB:List Nat→Bool
 | []=>true
 | a::r=>!memN a r&&nodupB r
theorem nodupB_ok:∀{l:List Nat},nodupB l=true→l.Nodup
 | [],_=>List.nodup_nil
 | a::r,h=>by
   simp only [nodupB,Bool.and_eq_true,Bool.not_eq_true'] at h
   exact List.nodup_cons.2 ⟨memN_not h.1,nodupB_ok h.2⟩
theorem X.call (frz:Bool) (S:List (Nat × Blk)) (L:List Nat) {γ:Type} {m1:M γ} {kk:γ→M β} {f:FuncId} {args:List Operand} {Ts:Array TypeId} {B:List (TypeId × List TV)} {B':γ→List (TypeId × List TV)} {aa0 aa:List WV} {rv:γ→SV} (hf:∀a,m1 a→FCalls Tryz.prog f B aa (rv a) [] (B' a))
 (h:∀a,TS N k all q r (s.eff d ⟨lendNeed S L B,[],callUpd frz S L (B' a) [] [],(rv a).ren (callRen L [])⟩) (some ⟨lendNeed S L B,[],callUpd frz S L (B' a) [] [],(rv a).ren (callRen L [])⟩::τ) (kk a))
 (ha:argsW S L s.ev args=some aa0:=by exact rfl) (haa:aa0.map tzW=aa:=by exact rfl) (hn:s.needOk (lendNeed S L B):=by first| exact trivial| exact ⟨rfl,trivial⟩| exact ⟨rfl,rfl,trivial⟩| exact ⟨rfl,rfl,rfl,trivial⟩) (hl:L.length=B.length:=by exact rfl) (hS:S.all (fun p=>p.2.isSl)=true:=by exact rfl) (hnd:nodupB (L++[]++S.map (·.1))=true:=by exact rfl) (hr:∀a,(rv a).below (B.length+0)=true:=by exact fun _=>rfl)
 (hsc:frz=true∨(B=[]∧∀a,scS (rv a)=true):=by exact .inl rfl) (hd:dstB N d=true:=by exact rfl):TS N k all q (⟨d,.call {callee:=.value (.func f),args:=args.toArray,argTypes:=Ts},ty,pos,aft,none⟩::r) s τ (M.call m1 kk):=by
 refine ⟨fun v hv=>?_⟩
 obtain ⟨a,h1,h2⟩:=M.call_iff.1 hv
 subst haa
 have hF:=hf a h1
 have hB:frz=false→(∀x∈B' a,∀t∈x.2,t.sc)∧(∀kb∈([]:List Blk),kb.sc)∧(rv a).sc:=fun hz=>by
  rcases hsc with h3| ⟨h3,h4⟩
  ·rw [hz] at h3;cases h3
  ·refine ⟨fun x hx=>?_,by simp,scS_ok (h4 a)⟩
   have h5:=hF.2.1.1
   rw [h3] at h5
   have h6:B' a=[]:=by simpa using h5
   rw [h6] at hx;cases hx
 exact G.call frz S L [] (FCalls.tz hF) ha hl hS (nodupB_ok hnd) rfl (by simp) (hr a) hB hn rfl hd ((h a).out v h2)
theorem X.callI (frz:Bool) (S:List (Nat × Blk)) (L:List Nat) {γ:Type} {m1:M γ} {kk:γ→M β} {f:FuncId} {args:List Operand} {Ts:Array TypeId} {B:List (TypeId × List TV)} {B':γ→List (TypeId × List TV)} {caps:List Cap} {aa0 ca aa:List WV} {rv:γ→SV} (hf:∀a,m1 a→FCalls Tryz.prog f B aa (rv a) [] (B' a))
 (h:∀a,TS N k all q r (s.eff d ⟨lendNeed S L B,[],callUpd frz S L (B' a) [] [],(rv a).ren (callRen L [])⟩) (some ⟨lendNeed S L B,[],callUpd frz S L (B' a) [] [],(rv a).ren (callRen L [])⟩::τ) (kk a))
 (hz:s.ev z=.w (.c (.clo f caps)):=by exact rfl) (ha:argsW S L s.ev args=some aa0:=by exact rfl) (hca:capsW L caps=some ca:=by exact rfl) (haa:(aa0++ca).map tzW=aa:=by exact rfl) (hn:s.needOk (lendNeed S L B):=by first| exact trivial| exact ⟨rfl,trivial⟩| exact ⟨rfl,rfl,trivial⟩| exact ⟨rfl,rfl,rfl,trivial⟩) (hl:L.length=B.length:=by exact rfl) (hS:S.all (fun p=>p.2.isSl)=true:=by exact rfl) (hnd:nodupB (L++[]++S.map (·.1))=true:=by exact rfl) (hr:∀a,(rv a).below (B.length+0)=true:=by exact fun _=>rfl)
 (hsc:frz=true∨(B=[]∧∀a,scS (rv a)=true):=by exact .inl rfl) (hd:dstB N d=true:=by exact rfl):TS N k all q (⟨d,.call {callee:=.value z,args:=args.toArray,argTypes:=Ts},ty,pos,aft,none⟩::r) s τ (M.call m1 kk):=by
 refine ⟨fun v hv=>?_⟩
 obtain ⟨a,h1,h2⟩:=M.call_iff.1 hv
 subst haa
 have hF:=hf a h1
 have hB:frz=false→(∀x∈B' a,∀t∈x.2,t.sc)∧(∀kb∈([]:List Blk),kb.sc)∧(rv a).sc:=fun hz=>by
  rcases hsc with h3| ⟨h3,h4⟩
  ·rw [hz] at h3;cases h3
  ·refine ⟨fun x hx=>?_,by simp,scS_ok (h4 a)⟩
   have h5:=hF.2.1.1
   rw [h3] at h5
   have h6:B' a=[]:=by simpa using h5
   rw [h6] at hx;cases hx
 exact G.callI frz S L [] hz (FCalls.tz hF) ha hca hl hS (nodupB_ok hnd) rfl (by simp) (hr a) hB hn rfl hd ((h a).out v h2)
theorem X.callE (nb:Nat) (S:List (Nat × Blk)) {γ:Type} {m1:M γ} {kk:γ→M β} {eb:TypeId} {ts:γ→List TV} {f:FuncId} {args:List Operand} {Ts:Array TypeId} {aa0 aa:List WV} {rv:γ→SV} (hf:∀a,m1 a→FCalls Tryz.prog f [] aa (rv a) [.bx eb ((ts a).map .v)] []) (h:∀a,TS N k all q r (s.eff d ⟨lendNeed S [] [],[nb],callUpd true S [] [] [nb] [.bx eb ((ts a).map .v)],(rv a).ren (callRen [] [nb])⟩) (some ⟨lendNeed S [] [],[nb],callUpd true S [] [] [nb] [.bx eb ((ts a).map .v)],(rv a).ren (callRen [] [nb])⟩::τ) (kk a)) (ha:argsW S [] s.ev args=some aa0:=by exact rfl) (haa:aa0.map tzW=aa:=by exact rfl) (hn:s.needOk (lendNeed S [] []):=by first| exact trivial| exact ⟨rfl,trivial⟩| exact ⟨rfl,rfl,trivial⟩| exact ⟨rfl,rfl,rfl,trivial⟩) (hS:S.all (fun p=>p.2.isSl)=true:=by exact rfl) (hnd:nodupB ([]++[nb]++S.map (·.1))=true:=by exact rfl) (hr:∀a,(rv a).below (0+1)=true:=by exact fun _=>rfl) (hw:s.freshB k nb=true:=by exact rfl) (hd:dstB N d=true:=by exact rfl):TS N k all q (⟨d,.call {callee:=.value (.func f),args:=args.toArray,argTypes:=Ts},ty,pos,aft,none⟩::r) s τ (M.call m1 kk):=by
 refine ⟨fun v hv=>?_⟩
 obtain ⟨a,h1,h2⟩:=M.call_iff.1 hv
 subst haa
 exact G.call true S [] [nb] (FCalls.tz (hf a h1)) ha rfl hS (nodupB_ok hnd) rfl (by intro kb hkb;simp only [List.mem_singleton] at hkb;subst hkb;exact exp_bx _ _) (hr a) (by simp) hn (by simpa using hw) hd ((h a).out v h2)
end
theorem Ret.cloE {N k:Nat} {s:St} {rs:List ResultVar} {rv:SV} {B':List (TypeId × List TV)} (b:Nat) (l:List WV) {e:TypeId} {cells:List AV} {ts:List TV} (h:ResOk Tryz.prog s rs l) (hB:HeapIs s 0 B') (hb:lookH s.heap b=some (.bx e cells):=by exact rfl) (hc:cells=ts.map .v:=by exact rfl) (hkb:Nat.ble k b=true:=by exact rfl) (hr:resSV l=rv.ren (expRen k [b]):=by exact rfl) (hbl:rv.below (k+1)=true:=by exact rfl):Ret N k rs rv [.bx e (ts.map .v)] B' s:=by
 refine ⟨s,.refl s,l,[b],h,hr,⟨by rw [←hc];exact hb,⟨ts,rfl⟩,trivial⟩,?_,hB,hbl⟩
 have:=Nat.le_of_ble_eq_true hkb
 refine List.nodup_append.2 ⟨List.nodup_range,by simp,?_⟩
 intro a ha c hc
 have:=List.mem_range.1 ha
 simp at hc
 omega
end Go.Proofs.YtgbkhjllbgmdcaaGreat
