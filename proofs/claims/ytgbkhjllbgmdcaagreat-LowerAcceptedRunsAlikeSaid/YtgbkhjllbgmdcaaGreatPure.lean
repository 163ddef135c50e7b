/- The language of lifted functions: a function says which results it may have; what it means that it has one of a kind. No program in sight. -/
import Derived.WalkKit
namespace Go.Proofs.YtgbkhjllbgmdcaaGreat.Q
def M (α:Type):Type:=α→Prop
@[irreducible] def M.ret {α:Type} (a:α):M α:=fun r=>r=a
@[irreducible] def M.chk {α:Type} (p:Prop) (m:M α):M α:=fun r=>p∧m r
@[irreducible] def M.bif {α:Type} (b:Bool) (m m':M α):M α:=fun r=>(b=true∧m r)∨(b=false∧m' r)
@[irreducible] def M.call {α γ:Type} (m:M γ) (k:γ→M α):M α:=fun r=>∃a,m a∧k a r
@[irreducible] def M.join {α γ:Type} (K:γ→M α) (B:(γ→M α)→M α):M α:=B K
def M.iter {α γ:Type} (F:(γ→M α)→γ→M α):Nat→γ→M α
 | 0,_=>fun _=>False
 | n+1,j=>F (M.iter F n) j
@[irreducible] def M.loop {α γ:Type} (F:(γ→M α)→γ→M α) (j:γ):M α:=fun r=>∃n,M.iter F n j r
section
variable {α γ:Type} {r a:α} {m m':M α}
theorem M.ret_iff:M.ret a r↔r=a:=by unfold M.ret;exact Iff.rfl
theorem M.chk_iff {p:Prop}:M.chk p m r↔p∧m r:=by unfold M.chk;exact Iff.rfl
theorem M.bif_iff {b:Bool}:M.bif b m m' r↔(b=true∧m r)∨(b=false∧m' r):=by unfold M.bif;exact Iff.rfl
theorem M.call_iff {g:M γ} {k:γ→M α}:M.call g k r↔∃a,g a∧k a r:=by unfold M.call;exact Iff.rfl
theorem M.join_iff {K:γ→M α} {B:(γ→M α)→M α}:M.join K B r↔B K r:=by unfold M.join;exact Iff.rfl
theorem M.loop_iff {F:(γ→M α)→γ→M α} {j:γ}:M.loop F j r↔∃n,M.iter F n j r:=by unfold M.loop;exact Iff.rfl
end
def atD {α:Type} [Inhabited α] (l:List α) (i:Int):α:=l.getD i.toNat default
def setD {α:Type} (l:List α) (i:Int) (v:α):List α:=l.set i.toNat v
def sliceD {α:Type} (l:List α) (lo hi:Int):List α:=(l.drop lo.toNat).take (hi.toNat- lo.toNat)
def repD {α:Type} [Inhabited α] (n:Int):List α:=List.replicate n.toNat default
theorem atD_get {α:Type} [Inhabited α] {l:List α} {i:Int} (h:0≤i∧i<(l.length:Int)):l[i.toNat]?=some (atD l i):=by
 have hi:i.toNat<l.length:=by omega
 unfold atD
 rw [List.getD_eq_getElem?_getD,List.getElem?_eq_getElem hi]
 rfl
theorem atD_nat {α:Type} [Inhabited α] {l:List α} {i:Nat} (h:i<l.length):atD l (i:Int)=l[i]:=by
 unfold atD
 rw [List.getD_eq_getElem?_getD,Int.toNat_natCast,List.getElem?_eq_getElem h]
 rfl
theorem atD_mem {α:Type} [Inhabited α] {l:List α} {i:Int} (h:0≤i∧i<(l.length:Int)):atD l i∈l:=List.mem_of_getElem? (atD_get h)
theorem length_setD {α:Type} (l:List α) (i:Int) (v:α):(setD l i v).length=l.length:=by unfold setD;exact List.length_set
theorem length_repD {α:Type} [Inhabited α] (n:Int):(repD n:List α).length=n.toNat:=by unfold repD;exact List.length_replicate
def WP {α:Type} (m:M α) (Q:α→Prop):Prop:=∃r,m r∧Q r
section
variable {α γ:Type} {m m':M α} {Q Q':α→Prop}
theorem WP.mono (h:WP m Q) (hq:∀a,Q a→Q' a):WP m Q':=let ⟨r,h1,h2⟩:=h;⟨r,h1,hq r h2⟩
theorem WP.ret_iff {a:α}:WP (M.ret a) Q↔Q a:=⟨fun ⟨_,h1,h2⟩=>M.ret_iff.1 h1▸h2,fun h=>⟨a,M.ret_iff.2 rfl,h⟩⟩
theorem WP.chk_iff {p:Prop}:WP (M.chk p m) Q↔p∧WP m Q:=⟨fun ⟨r,h1,h2⟩=>⟨(M.chk_iff.1 h1).1,r,(M.chk_iff.1 h1).2,h2⟩,fun ⟨h,r,h1,h2⟩=>⟨r,M.chk_iff.2 ⟨h,h1⟩,h2⟩⟩
theorem WP.bif_iff {b:Bool}:WP (M.bif b m m') Q↔(b=true→WP m Q)∧(b=false→WP m' Q):=by
 constructor
 ·rintro ⟨r,h1,h2⟩
  rcases M.bif_iff.1 h1 with ⟨h,h3⟩| ⟨h,h3⟩
  ·exact ⟨fun _=>⟨r,h3,h2⟩,fun h'=>by rw [h] at h';cases h'⟩
  ·exact ⟨fun h'=>(by rw [h] at h';cases h'),fun _=>⟨r,h3,h2⟩⟩
 ·rintro ⟨h1,h2⟩
  cases b with
  | true=>obtain ⟨r,h3,h4⟩:=h1 rfl;exact ⟨r,M.bif_iff.2 (.inl ⟨rfl,h3⟩),h4⟩
  | false=>obtain ⟨r,h3,h4⟩:=h2 rfl;exact ⟨r,M.bif_iff.2 (.inr ⟨rfl,h3⟩),h4⟩
theorem WP.call_iff {g:M γ} {k:γ→M α}:WP (M.call g k) Q↔WP g (fun a=>WP (k a) Q):=by
 constructor
 ·rintro ⟨r,h1,h2⟩
  obtain ⟨a,h3,h4⟩:=M.call_iff.1 h1
  exact ⟨a,h3,r,h4,h2⟩
 ·rintro ⟨a,h3,r,h4,h2⟩
  exact ⟨r,M.call_iff.2 ⟨a,h3,h4⟩,h2⟩
theorem WP.ret {a:α} (h:Q a):WP (M.ret a) Q:=WP.ret_iff.2 h
theorem WP.chk {p:Prop} (h:p) (h':p→WP m Q):WP (M.chk p m) Q:=WP.chk_iff.2 ⟨h,h' h⟩
theorem WP.bif {b:Bool} (h:b=true→WP m Q) (h':b=false→WP m' Q):WP (M.bif b m m') Q:=WP.bif_iff.2 ⟨h,h'⟩
theorem WP.call {g:M γ} {k:γ→M α} {R:γ→Prop} (h:WP g R) (h':∀a,R a→WP (k a) Q):WP (M.call g k) Q:=WP.call_iff.2 (h.mono h')
theorem WP.join {K:γ→M α} {B:(γ→M α)→M α} (P:γ→Prop) (hK:∀j,P j→WP (K j) Q) (hB:∀k:γ→M α,(∀j,P j→WP (k j) Q)→WP (B k) Q):WP (M.join K B) Q:=by
 obtain ⟨r,h1,h2⟩:=hB K hK
 exact ⟨r,M.join_iff.2 h1,h2⟩
theorem WP.join0 {K:γ→M α} {B:(γ→M α)→M α} (h:WP (B K) Q):WP (M.join K B) Q:=by
 obtain ⟨r,h1,h2⟩:=h
 exact ⟨r,M.join_iff.2 h1,h2⟩
theorem WP.loop {F:(γ→M α)→γ→M α} {j0:γ} (I:γ→Prop) (μ:γ→Nat) (h0:I j0) (h:∀(again:γ→M α) (j:γ),I j→(∀j',I j'→μ j'<μ j→WP (again j') Q)→WP (F again j) Q):WP (M.loop F j0) Q:=by
 have key:∀n j,I j→μ j<n→WP (M.iter F n j) Q:=by
  intro n
  induction n with
  | zero=>intro j _ hn;exact absurd hn (Nat.not_lt_zero _)
  | succ n ih=>intro j hj hn;exact h _ j hj fun j' hj' hlt=>ih j' hj' (by omega)
 obtain ⟨r,h1,h2⟩:=key (μ j0+1) j0 h0 (Nat.lt_succ_self _)
 exact ⟨r,M.loop_iff.2 ⟨_,h1⟩,h2⟩
end
def okI (n:Int):Prop:= -9223372036854775808≤n∧n≤9223372036854775807
end Go.Proofs.YtgbkhjllbgmdcaaGreat.Q
