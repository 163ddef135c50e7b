/- Texts of the claim, one behind the other. -/
import Derived.Test.YtgbkhjllbgmdcaaGreatGd
import Derived.Test.YtgbkhjllbgmdcaaGreatBase
set_option linter.unusedVariables false
set_option linter.unusedSimpArgs false
namespace Go.Proofs.YtgbkhjllbgmdcaaGreat.Q
theorem wpH:(∀(p:Prop) [Decidable p],decide p=true↔p)∧(∀(p:Prop) [Decidable p],decide p=false↔¬p)∧(∀b:Bool,((!b)=true)↔(b=false))∧(∀b:Bool,((!b)=false)↔(b=true))∧(∀a b:Bool,(a&&b)=true↔a=true∧b=true)∧(∀a b:Bool,(a|| b)=true↔a=true∨b=true)∧(∀b:Bool,¬b=true↔b=false)∧(∀b:Bool,¬b=false↔b=true)∧(∀a b:Int,¬a<b↔b≤a)∧(∀a b:Int,¬a≤b↔b<a)∧(∀(α:Type) (a b:α),a≠b↔¬a=b):=⟨fun p _=>by rw [decide_eq_true_eq],fun p _=>decide_eq_false_iff_not,fun b=>by cases b<;>simp,fun b=>by cases b<;>simp,fun a b=>by cases a<;>cases b<;>simp,fun a b=>by cases a<;>cases b<;>simp,fun b=>by cases b<;>simp,fun b=>by cases b<;>simp,fun a b=>Int.not_lt,fun a b=>Int.not_le,fun _ _ _=>Iff.rfl⟩
theorem wpN:(∀n,okI n↔-9223372036854775808≤n∧n≤9223372036854775807)∧(∀(α:Type) (a b:List α),(a++b).length=a.length+b.length)∧(∀(α:Type) (a:α) (b:List α),(a::b).length=b.length+1)∧(∀α:Type,([]:List α).length=0)∧(∀(α:Type) (l:List α) (i:Int) (v:α),(setD l i v).length=l.length)∧∀(α:Type) [Inhabited α] (n:Int),(repD n:List α).length=n.toNat:=⟨fun _=>Iff.rfl,fun _ _ _=>List.length_append,fun _ _ _=>rfl,fun _=>rfl,fun _=>length_setD,fun _ _=>length_repD⟩
structure okC (c:DCodes):Prop where
 list:∀x∈c.list,0≤x∧x≤255
 lo:0≤c.at_
 hi:c.at_≤(c.list.length:Int)
 len:c.list.length≤1000000
theorem okC.at' {c:DCodes} (h:okC c) (hl:c.at_<(c.list.length:Int)):0≤atD c.list c.at_∧atD c.list c.at_≤255:=h.list _ (atD_mem ⟨h.lo,hl⟩)
theorem new_sp (l:List Int) (n:Int) (hl:∀x∈l,0≤x∧x≤255) (hn:0≤n∧n≤1000000):WP (draw_New l n) okC:=by
 unfold draw_New
 refine WP.chk (by omega) fun _=>WP.ret ⟨fun x hx=>?_,Int.le_refl _,?_,?_⟩
 ·exact hl x (List.drop_subset _ _ (List.take_subset _ _ hx))
 ·exact Int.natCast_nonneg _
 ·simp only [sliceD,List.length_take,List.length_drop];omega
theorem next_sp (c:DCodes) (n:Int) (hc:okC c) (hn:n≤1000000):WP (draw_Next c n) fun r=>okC r.2∧0≤r.1∧(1≤n→r.1<n)∧(n<1→r.1=0):=by
 have h0:=hc.lo
 have h1:=hc.hi
 have h2:=hc.len
 unfold draw_Next draw_Left
 refine WP.call (R:=fun a=>a=(decide (c.at_<(c.list.length:Int)),c)) (WP.ret rfl) ?_
 rintro _ rfl
 dsimp only
 refine WP.bif (fun wh=>?_) (fun wh=>?_)<;>(try simp only [wpH] at wh)
 ·exact WP.ret ⟨hc,Int.le_refl _,fun h=>by omega,fun _=>rfl⟩
 refine WP.bif (fun wh=>?_) (fun wh=>?_)<;>(try simp only [wpH] at wh)
 ·exact WP.ret ⟨hc,Int.le_refl _,fun h=>by omega,fun _=>rfl⟩
 have h3:=hc.at' (by assumption)
 generalize atD c.list c.at_=v at h3
 have h4:0≤v*n:=Int.mul_nonneg h3.1 (by omega)
 have h5:v*n≤255*n:=Int.mul_le_mul_of_nonneg_right h3.2 (by omega)
 have h6:v*n / 256<n:=Int.ediv_lt_of_lt_mul (by omega) (by omega)
 (repeat' (first| (refine WP.chk (by (first| omega| (simp only [wpN] at*;omega))) fun _=>?_)| ((refine WP.bif (fun wh=>?_) (fun wh=>?_))<;>(try simp only [wpH] at wh)<;>(try (exfalso;omega)))))
 exact WP.ret ⟨⟨hc.list,by show 0≤c.at_+1;omega,by show c.at_+1≤(c.list.length:Int);omega,hc.len⟩,Int.ediv_nonneg h4 (by omega),fun _=>h6,fun h=>by omega⟩
def rightS (s:ASlot):Prop:=(s.Size=1∨s.Size=2∨s.Size=4∨s.Size=8∨s.Size=16)∧(s.Align=1∨s.Align=2∨s.Align=4∨s.Align=8∨s.Align=16∨s.Align=32∨s.Align=64)
theorem slot_sp (c:DCodes) (hc:okC c):WP (draw_Slot c) fun r=>okC r.2∧rightS r.1:=by
 unfold draw_Slot
 refine WP.call (next_sp c 7 hc (by omega)) fun x1 ⟨h1,h2,h3,h4⟩=>?_
 (repeat' (first| (refine WP.chk (by (first| omega| (simp only [wpN] at*;omega))) fun _=>?_)| ((refine WP.bif (fun wh=>?_) (fun wh=>?_))<;>(try simp only [wpH] at wh)<;>(try (exfalso;omega)))))
 refine WP.call (next_sp _ 8 h1 (by omega)) fun x2 ⟨h5,h6,h7,h8⟩=>?_
 (repeat' (first| (refine WP.chk (by (first| omega| (simp only [wpN] at*;omega))) fun _=>?_)| ((refine WP.bif (fun wh=>?_) (fun wh=>?_))<;>(try simp only [wpH] at wh)<;>(try (exfalso;omega)))))
 refine WP.ret ⟨h5,?_,?_⟩
 ·have:x1.1=0∨x1.1=1∨x1.1=2∨x1.1=3∨x1.1=4∨x1.1=5∨x1.1=6:=by omega
  rcases this with h| h| h| h| h| h| h<;>rw [h]<;>simp [atD]
 ·have:x2.1=0∨x2.1=1∨x2.1=2∨x2.1=3∨x2.1=4∨x2.1=5∨x2.1=6∨x2.1=7:=by omega
  rcases this with h| h| h| h| h| h| h| h<;>rw [h]<;>simp [atD]
theorem slots_sp (c:DCodes) (most:Int) (hc:okC c) (hm:0≤most∧most≤1000):WP (draw_Slots c most) fun r=>okC r.2∧(r.1.length:Int)≤most∧∀s∈r.1,rightS s:=by
 unfold draw_Slots
 (repeat' (first| (refine WP.chk (by (first| omega| (simp only [wpN] at*;omega))) fun _=>?_)| ((refine WP.bif (fun wh=>?_) (fun wh=>?_))<;>(try simp only [wpH] at wh)<;>(try (exfalso;omega)))))
 refine WP.call (next_sp c _ hc (by omega)) fun x1 ⟨h1,h2,h3,h4⟩=>?_
 refine WP.loop (fun j=>0≤j.1∧okC j.2.1∧j.1+(j.2.2.length:Int)≤most∧∀s∈j.2.2,rightS s) (fun j=>j.1.toNat) ⟨h2,h1,by simp;omega,by simp⟩ ?_
 rintro again ⟨n,c2,l⟩ ⟨h5,h6,h7,h8⟩ ih
 dsimp only at h5 h6 h7 h8 ih ⊢
 (repeat' (first| (refine WP.chk (by (first| omega| (simp only [wpN] at*;omega))) fun _=>?_)| ((refine WP.bif (fun wh=>?_) (fun wh=>?_))<;>(try simp only [wpH] at wh)<;>(try (exfalso;omega)))))
 ·refine WP.call (slot_sp c2 h6) fun x2 ⟨h9,h10⟩=>?_
  (repeat' (first| (refine WP.chk (by (first| omega| (simp only [wpN] at*;omega))) fun _=>?_)| ((refine WP.bif (fun wh=>?_) (fun wh=>?_))<;>(try simp only [wpH] at wh)<;>(try (exfalso;omega)))))
  refine ih _ ⟨by omega,h9,by simp;omega,?_⟩ (by dsimp only;omega)
  intro s hs
  rcases List.mem_append.1 hs with hs| hs
  ·exact h8 s hs
  ·simp at hs;rw [hs];exact h10
 ·exact WP.ret ⟨h6,by dsimp only;omega,h8⟩
def inN (x n:Int):Prop:=0≤x∧x<n
theorem like_sp (c:DCodes) (f:AFunc) (s:Int) (hc:okC c) (hs:inN s f.Slots.length) (hl:f.Slots.length≤1000):WP (draw_like c f s) fun r=>okC r.2∧inN r.1 f.Slots.length∧(atD f.Slots r.1).Size=(atD f.Slots s).Size:=by
 unfold draw_like
 obtain ⟨hs1,hs2⟩:=hs
 refine WP.loop (fun j=>0≤j.1∧j.1≤f.Slots.length∧(j.2.length:Int)≤j.1∧(s<j.1→1≤j.2.length)∧∀x∈j.2,inN x f.Slots.length∧(atD f.Slots x).Size=(atD f.Slots s).Size) (fun j=>f.Slots.length- j.1.toNat) ⟨by simp,by simp,by simp,by simp;omega,by simp⟩ ?_
 rintro again ⟨k,l⟩ ⟨h1,h2,h3,h4,h5⟩ ih
 dsimp only at h1 h2 h3 h4 h5 ih ⊢
 (repeat' (first| (refine WP.chk (by (first| omega| (simp only [wpN] at*;omega))) fun _=>?_)| ((refine WP.bif (fun wh=>?_) (fun wh=>?_))<;>(try simp only [wpH] at wh)<;>(try (exfalso;omega)))))
 ·refine ih _ ⟨by omega,by dsimp only;omega,by simp;omega,by simp,?_⟩ (by dsimp only;omega)
  intro x hx
  rcases List.mem_append.1 hx with hx| hx
  ·exact h5 x hx
  ·simp at hx;rw [hx];exact ⟨⟨by omega,by omega⟩,by assumption⟩
 ·refine ih _ ⟨by omega,by dsimp only;omega,by dsimp only;omega,fun h=>?_,h5⟩ (by dsimp only;omega)
  dsimp only at h ⊢
  by_cases hsk:s=k
  ·subst hsk;contradiction
  ·exact h4 (by omega)
 ·refine WP.call (next_sp c _ hc (by omega)) fun x1 ⟨h6,h7,h8,h9⟩=>?_
  have h10:=h4 (by omega)
  (repeat' (first| (refine WP.chk (by (first| omega| (simp only [wpN] at*;omega))) fun _=>?_)| ((refine WP.bif (fun wh=>?_) (fun wh=>?_))<;>(try simp only [wpH] at wh)<;>(try (exfalso;omega)))))
  exact WP.ret ⟨h6,h5 _ (atD_mem ⟨by omega,by omega⟩)⟩
theorem pow_64 {n:Int} (h0:0≤n) (h1:n<64):0≤(1:Int)*2 ^ n.toNat∧(1:Int)*2 ^ n.toNat≤18446744073709551615:=by
 have h2:2 ^ n.toNat≤2 ^ 63:=Nat.pow_le_pow_right (by decide) (by omega)
 have e:(1:Int)*2 ^ n.toNat=((2 ^ n.toNat:Nat):Int):=by rw [Int.one_mul,Int.natCast_pow];rfl
 rw [e]
 exact ⟨Int.natCast_nonneg _,Int.le_trans (Int.ofNat_le.2 h2) (by decide)⟩
def wordR (n:Int):Prop:=0≤n∧n≤18446744073709551615
theorem word_sp (c:DCodes) (hc:okC c):WP (draw_Word c) fun r=>okC r.2∧wordR r.1:=by
 unfold draw_Word
 refine WP.call (next_sp c 6 hc (by omega)) fun x1 ⟨h1,h2,h3,h4⟩=>?_
 (repeat' (first| (refine WP.chk (by (first| omega| (simp only [wpN] at*;omega))) fun _=>?_)| ((refine WP.bif (fun wh=>?_) (fun wh=>?_))<;>(try simp only [wpH] at wh)<;>(try (exfalso;omega)))))
 ·refine WP.call (next_sp _ 3 h1 (by omega)) fun x2 ⟨h5,h6,h7,h8⟩=>?_
  (repeat' (first| (refine WP.chk (by (first| omega| (simp only [wpN] at*;omega))) fun _=>?_)| ((refine WP.bif (fun wh=>?_) (fun wh=>?_))<;>(try simp only [wpH] at wh)<;>(try (exfalso;omega)))))
  exact WP.ret ⟨h5,by dsimp only;omega,by dsimp only;omega⟩
 ·refine WP.call (next_sp _ 64 h1 (by omega)) fun x2 ⟨h5,h6,h7,h8⟩=>?_
  have:=pow_64 h6 (h7 (by omega))
  refine WP.chk ⟨by omega,by omega,this⟩ fun _=>?_
  exact WP.ret ⟨h5,this⟩
 ·exact WP.ret ⟨h1,by dsimp only;omega,by dsimp only;omega⟩
 ·refine WP.call (next_sp _ 256 h1 (by omega)) fun x2 ⟨h5,h6,h7,h8⟩=>?_
  (repeat' (first| (refine WP.chk (by (first| omega| (simp only [wpN] at*;omega))) fun _=>?_)| ((refine WP.bif (fun wh=>?_) (fun wh=>?_))<;>(try simp only [wpH] at wh)<;>(try (exfalso;omega)))))
  exact WP.ret ⟨h5,by dsimp only;omega,by dsimp only;omega⟩
theorem WP.join_and {α:Type} {K:Bool→M α} {p q:Bool} {Q:α→Prop} (h:WP (K (p&&q)) Q):WP (M.join K fun k=>M.bif p (k q) (k false)) Q:=by
 refine WP.join0 (WP.bif (fun hp=>?_) fun hp=>?_)<;>rw [hp] at h<;>simpa using h
def reg (n:Int):Prop:=0≤n∧n<8
inductive WfI (n i par:Int) (sl:List ASlot) (J:Int→Prop):AInstr→Prop
 | const (a w:Int) (ha:reg a) (hw:wordR w):WfI n i par sl J ⟨0,a,0,0,w⟩
 | copy (o a b:Int) (ho:o=1∨o=12) (ha:reg a) (hb:reg b):WfI n i par sl J ⟨o,a,b,0,0⟩
 | arith (o a b c:Int) (h1:2≤o) (h2:o≤11) (ha:reg a) (hb:reg b) (hc:reg c):WfI n i par sl J ⟨o,a,b,c,0⟩
 | io (o a:Int) (ho:o=13∨o=14) (ha:reg a):WfI n i par sl J ⟨o,a,0,0,0⟩
 | load (a s:Int) (ha:reg a) (hs:inN s sl.length):WfI n i par sl J ⟨15,a,s,0,0⟩
 | store (s a:Int) (hs:inN s sl.length) (ha:reg a):WfI n i par sl J ⟨16,s,a,0,0⟩
 | move (s t:Int) (hs:inN s sl.length) (ht:inN t sl.length) (he:(atD sl s).Size=(atD sl t).Size):WfI n i par sl J ⟨17,s,t,0,0⟩
 | arg (a r:Int) (ha:reg a) (hr:reg r):WfI n i par sl J ⟨18,a,r,0,0⟩
 | param (a k:Int) (ha:reg a) (hk:inN k par):WfI n i par sl J ⟨19,a,k,0,0⟩
 | jump (t:Int) (ht:J t):WfI n i par sl J ⟨20,t,0,0,0⟩
 | branch (a t:Int) (ha:reg a) (ht:J t):WfI n i par sl J ⟨21,a,t,0,0⟩
 | call (f:Int) (h1:i<f) (h2:f<n):WfI n i par sl J ⟨22,f,0,0,0⟩
 | ret:WfI n i par sl J ⟨23,0,0,0,0⟩
 | trap (w:Int) (hw:wordR w):WfI n i par sl J ⟨24,0,0,0,w⟩
def parR (ps:List Int):Prop:=ps.length≤1000∧∀x∈ps,0≤x∧x≤3
theorem one_mem {α:Type} {x y:α} (h:x∈[y]):x=y:=by simpa using h
theorem body_sp (c:DCodes) (f:AFunc) (i:Int) (ps:List Int) (hc:okC c) (hf:f.Slots.length≤1000) (hp:f.Params≤1000) (hi:0≤i∧i≤1000) (hps:parR ps):WP (draw_body c f i ps) fun r=>okC r.2∧r.1.length≤4∧∀x∈r.1,WfI ps.length i f.Params f.Slots (fun t=>t= -1) x:=by
 obtain ⟨hp1,hp2⟩:=hps
 unfold draw_body
 refine WP.call (next_sp c 4 hc (by omega)) fun x1 ⟨h1,h2,h3,_⟩=>?_
 have hr:reg x1.1:=⟨h2,by have:=h3 (by omega);omega⟩
 refine WP.call (next_sp _ 20 h1 (by omega)) fun x2 ⟨h5,h6,h7,_⟩=>?_
 refine WP.join_and (WP.bif (fun wh=>?_) (fun wh=>?_))<;>(try simp only [wpH] at wh)
 ·refine WP.call (next_sp _ _ h5 (by omega)) fun x4 ⟨a1,a2,a3,_⟩=>WP.ret ⟨a1,by simp,fun x hx=>?_⟩
  rw [one_mem hx]
  exact .store _ _ ⟨a2,a3 (by omega)⟩ hr
 refine WP.join_and (WP.bif (fun wh=>?_) (fun wh=>?_))<;>(try simp only [wpH] at wh)
 ·refine WP.call (next_sp _ _ h5 (by omega)) fun x4 ⟨a1,a2,a3,_⟩=>WP.ret ⟨a1,by simp,fun x hx=>?_⟩
  rw [one_mem hx]
  exact .load _ _ hr ⟨a2,a3 (by omega)⟩
 refine WP.join_and (WP.bif (fun wh=>?_) (fun wh=>?_))<;>(try simp only [wpH] at wh)
 ·refine WP.call (next_sp _ _ h5 (by omega)) fun x4 ⟨a1,a2,a3,_⟩=>?_
  refine WP.call (like_sp _ f _ a1 ⟨a2,a3 (by omega)⟩ hf) fun x5 ⟨b1,b2,b3⟩=>WP.ret ⟨b1,by simp,fun x hx=>?_⟩
  rw [one_mem hx]
  exact .move _ _ b2 ⟨a2,a3 (by omega)⟩ b3
 refine WP.bif (fun wh=>?_) (fun wh=>?_)<;>(try simp only [wpH] at wh)
 ·refine WP.call (word_sp _ h5) fun x4 ⟨a1,a2⟩=>WP.ret ⟨a1,by simp,fun x hx=>?_⟩
  rw [one_mem hx]
  exact .const _ _ hr a2
 refine WP.bif (fun wh=>?_) (fun wh=>?_)<;>(try simp only [wpH] at wh)
 ·refine WP.call (next_sp _ 10 h5 (by omega)) fun x4 ⟨a1,a2,a3,_⟩=>?_
  (repeat' (first| (refine WP.chk (by (first| omega| (simp only [wpN] at*;omega))) fun _=>?_)| ((refine WP.bif (fun wh=>?_) (fun wh=>?_))<;>(try simp only [wpH] at wh)<;>(try (exfalso;omega)))))
  refine WP.call (next_sp _ 4 a1 (by omega)) fun x5 ⟨b1,b2,b3,_⟩=>?_
  refine WP.call (next_sp _ 8 b1 (by omega)) fun x6 ⟨c1,c2,c3,_⟩=>WP.ret ⟨c1,by simp,fun x hx=>?_⟩
  rw [one_mem hx]
  exact .arith _ _ _ _ (by omega) (by omega) hr ⟨b2,by omega⟩ ⟨c2,by omega⟩
 refine WP.bif (fun wh=>?_) (fun wh=>?_)<;>(try simp only [wpH] at wh)
 ·refine WP.ret ⟨h5,by simp,fun x hx=>?_⟩
  rw [one_mem hx]
  exact .io _ _ (.inr rfl) hr
 refine WP.bif (fun wh=>?_) (fun wh=>?_)<;>(try simp only [wpH] at wh)
 ·refine WP.call (next_sp _ 3 h5 (by omega)) fun x4 ⟨a1,a2,a3,_⟩=>?_
  (repeat' (first| (refine WP.chk (by (first| omega| (simp only [wpN] at*;omega))) fun _=>?_)| ((refine WP.bif (fun wh=>?_) (fun wh=>?_))<;>(try simp only [wpH] at wh)<;>(try (exfalso;omega)))))
  refine WP.ret ⟨a1,by simp,fun x hx=>?_⟩
  rw [one_mem hx]
  have:x4.1=0∨x4.1=1∨x4.1=2:=by omega
  have h0:reg 0:=⟨by omega,by omega⟩
  rcases this with h| h| h<;>rw [h]
  ·exact .io _ _ (.inl rfl) hr
  ·exact .copy _ _ _ (.inr rfl) hr h0
  ·exact .copy _ _ _ (.inl rfl) hr h0
 refine WP.join_and (WP.bif (fun wh=>?_) (fun wh=>?_))<;>(try simp only [wpH] at wh)
 ·refine WP.call (next_sp _ _ h5 (by omega)) fun x4 ⟨a1,a2,a3,_⟩=>WP.ret ⟨a1,by simp,fun x hx=>?_⟩
  rw [one_mem hx]
  exact .param _ _ hr ⟨a2,a3 (by omega)⟩
 (repeat' (first| (refine WP.chk (by (first| omega| (simp only [wpN] at*;omega))) fun _=>?_)| ((refine WP.bif (fun wh=>?_) (fun wh=>?_))<;>(try simp only [wpH] at wh)<;>(try (exfalso;omega)))))
 ·refine WP.call (next_sp _ _ h5 (by omega)) fun x4 ⟨a1,a2,a3,_⟩=>?_
  have a4:=a3 (by omega)
  (repeat' (first| (refine WP.chk (by (first| omega| (simp only [wpN] at*;omega))) fun _=>?_)| ((refine WP.bif (fun wh=>?_) (fun wh=>?_))<;>(try simp only [wpH] at wh)<;>(try (exfalso;omega)))))
  generalize hJ:(i+1+x4.1)=J
  have hpj:=hp2 (atD ps J) (atD_mem ⟨by omega,by omega⟩)
  refine WP.loop (fun j=>0≤j.1∧j.1≤3∧okC j.2.1∧(j.2.2.length:Int)≤j.1∧∀x∈j.2.2,WfI ps.length i f.Params f.Slots (fun t=>t= -1) x) (fun j=>3- j.1.toNat) ⟨by simp,by simp,a1,by simp,by simp⟩ ?_
  rintro again ⟨a,c2,out⟩ ⟨b1,b2,b3,b4,b5⟩ ih
  dsimp only at b1 b2 b3 b4 b5 ih ⊢
  (repeat' (first| (refine WP.chk (by (first| omega| (simp only [wpN] at*;omega))) fun _=>?_)| ((refine WP.bif (fun wh=>?_) (fun wh=>?_))<;>(try simp only [wpH] at wh)<;>(try (exfalso;omega)))))
  ·refine WP.call (next_sp _ 8 b3 (by omega)) fun x5 ⟨d1,d2,d3,_⟩=>?_
   (repeat' (first| (refine WP.chk (by (first| omega| (simp only [wpN] at*;omega))) fun _=>?_)| ((refine WP.bif (fun wh=>?_) (fun wh=>?_))<;>(try simp only [wpH] at wh)<;>(try (exfalso;omega)))))
   ·refine WP.call (next_sp _ 4 d1 (by omega)) fun x6 ⟨e1,e2,e3,_⟩=>?_
    (repeat' (first| (refine WP.chk (by (first| omega| (simp only [wpN] at*;omega))) fun _=>?_)| ((refine WP.bif (fun wh=>?_) (fun wh=>?_))<;>(try simp only [wpH] at wh)<;>(try (exfalso;omega)))))
    refine ih _ ⟨by dsimp only;omega,by dsimp only;omega,e1,by simp;omega,fun x hx=>?_⟩ (by dsimp only;omega)
    rcases List.mem_append.1 hx with hx| hx
    ·exact b5 x hx
    ·rw [one_mem hx];exact .arg _ _ ⟨by omega,by omega⟩ ⟨e2,by omega⟩
   ·exact ih _ ⟨by dsimp only;omega,by dsimp only;omega,d1,by dsimp only;omega,b5⟩ (by dsimp only;omega)
  ·refine WP.ret ⟨b3,by simp;omega,fun x hx=>?_⟩
   rcases List.mem_append.1 hx with hx| hx
   ·exact b5 x hx
   ·rw [one_mem hx];exact .call _ (by omega) (by omega)
 all_goals (refine WP.ret ⟨h5,by simp,fun x hx=>?_⟩;rw [one_mem hx];exact .io _ _ (.inr rfl) hr)
structure WfF (n i par:Int) (f:AFunc):Prop where
 parq:f.Params=par
 slots:f.Slots.length≤6
 rightS:∀s∈f.Slots,rightS s
 code:1≤f.Code.length∧f.Code.length≤800
 instr:∀x∈f.Code,WfI n i par f.Slots (fun t=>inN t f.Code.length) x
 last:(atD f.Code ((f.Code.length:Int)- 1)).Op=23∨(atD f.Code ((f.Code.length:Int)- 1)).Op=24
theorem WfI.done {n i par:Int} {sl:List ASlot} {J:Int→Prop} {x:AInstr} (h:WfI n i par sl (fun t=>t= -1) x) (q1:x.Op=20→0≤x.A) (q2:x.Op=21→0≤x.B):WfI n i par sl J x:=by
 cases h with
 | const a w h1 h2=>exact .const a w h1 h2
 | copy o a b h1 h2 h3=>exact .copy o a b h1 h2 h3
 | arith o a b c h1 h2 h3 h4 h5=>exact .arith o a b c h1 h2 h3 h4 h5
 | io o a h1 h2=>exact .io o a h1 h2
 | load a s h1 h2=>exact .load a s h1 h2
 | store s a h1 h2=>exact .store s a h1 h2
 | move s t h1 h2 h3=>exact .move s t h1 h2 h3
 | arg a r h1 h2=>exact .arg a r h1 h2
 | param a k h1 h2=>exact .param a k h1 h2
 | jump t ht=>have:=q1 rfl;dsimp only at this ht;omega
 | branch a t ha ht=>have:=q2 rfl;dsimp only at this ht;omega
 | call f h1 h2=>exact .call f h1 h2
 | ret=>exact .ret
 | trap w h1=>exact .trap w h1
theorem WfI.jmp {n i par:Int} {sl:List ASlot} {J J':Int→Prop} {x:AInstr} (h:WfI n i par sl J x) (ho:x.Op=20) (t:Int) (ht:J' t):WfI n i par sl J' ⟨x.Op,t,x.B,x.C,x.Imm⟩:=by
 cases h<;>first| exact .jump _ ht| (simp at ho;done)| (exfalso;dsimp only at ho;omega)
theorem WfI.brn {n i par:Int} {sl:List ASlot} {J J':Int→Prop} {x:AInstr} (h:WfI n i par sl J x) (ho:x.Op=21) (t:Int) (ht:J' t):WfI n i par sl J' ⟨x.Op,x.A,t,x.C,x.Imm⟩:=by
 cases h<;>first| (exact .branch _ _ (by assumption) ht)| (simp at ho;done)| (exfalso;dsimp only at ho;omega)
theorem atD_append_left {α:Type} [Inhabited α] {l m:List α} {i:Int} (h:i.toNat<l.length):atD (l++m) i=atD l i:=by
 unfold atD
 rw [List.getD_eq_getElem?_getD,List.getD_eq_getElem?_getD,List.getElem?_append_left h]
theorem atD_last {α:Type} [Inhabited α] {l:List α} {x:α} {i:Int} (h:i=(l.length:Int)):atD (l++[x]) i=x:=by
 subst h
 unfold atD
 rw [List.getD_eq_getElem?_getD,Int.toNat_natCast,List.getElem?_append_right (Nat.le_refl _)]
 simp
theorem atD_setD {α:Type} [Inhabited α] {l:List α} {i j:Int} {v:α} (hi:0≤i∧i<(l.length:Int)) (hj:0≤j):atD (setD l i v) j=if j=i then v else atD l j:=by
 unfold atD setD
 rw [List.getD_eq_getElem?_getD,List.getD_eq_getElem?_getD,List.getElem?_set]
 by_cases h:j=i
 ·subst h;rw [if_pos rfl,if_pos rfl,if_pos (by omega)];rfl
 ·rw [if_neg h,if_neg (by omega)]
theorem mem_atD {α:Type} [Inhabited α] {l:List α} {x:α} (h:x∈l):∃i:Int,0≤i∧i<(l.length:Int)∧atD l i=x:=by
 obtain ⟨n,hn,rfl⟩:=List.getElem_of_mem h
 exact ⟨n,by omega,by omega,atD_nat hn⟩
theorem function_sp (c:DCodes) (i:Int) (ps:List Int) (most:Int) (hc:okC c) (hi:inN i ps.length) (hm:0≤most∧most≤100) (hps:parR ps):WP (draw_function c i ps most) fun r=>okC r.2∧WfF ps.length i (atD ps i) r.1:=by
 have hps1:=hps.1
 have hpar:=hps.2 _ (atD_mem hi)
 obtain ⟨hi1,hi2⟩:=hi
 unfold draw_function
 (repeat' (first| (refine WP.chk (by (first| omega| (simp only [wpN] at*;omega))) fun _=>?_)| ((refine WP.bif (fun wh=>?_) (fun wh=>?_))<;>(try simp only [wpH] at wh)<;>(try (exfalso;omega)))))
 refine WP.call (slots_sp c 6 hc (by omega)) fun x1 ⟨h1,h2,h3⟩=>?_
 dsimp only
 refine WP.loop (fun j=>0≤j.1∧okC j.2.1∧(j.2.2.length:Int)≤j.1∧j.1≤x1.1.length∧∀x∈j.2.2,WfI ps.length i (atD ps i) x1.1 (fun t=>t= -1) x) (fun j=>x1.1.length- j.1.toNat) ⟨by simp,h1,by simp,by simp,by simp⟩ ?_
 rintro again1 ⟨s,c2,code⟩ ⟨a1,a2,a3,a4,a5⟩ ih1
 dsimp only at a1 a2 a3 a4 a5 ih1 ⊢
 refine WP.bif (fun wh=>?_) (fun wh=>?_)<;>(try simp only [wpH] at wh)
 ·refine WP.call (next_sp _ 4 a2 (by omega)) fun x2 ⟨b1,b2,b3,_⟩=>?_
  (repeat' (first| (refine WP.chk (by (first| omega| (simp only [wpN] at*;omega))) fun _=>?_)| ((refine WP.bif (fun wh=>?_) (fun wh=>?_))<;>(try simp only [wpH] at wh)<;>(try (exfalso;omega)))))
  ·refine WP.call (next_sp _ 4 b1 (by omega)) fun x3 ⟨d1,d2,d3,_⟩=>?_
   (repeat' (first| (refine WP.chk (by (first| omega| (simp only [wpN] at*;omega))) fun _=>?_)| ((refine WP.bif (fun wh=>?_) (fun wh=>?_))<;>(try simp only [wpH] at wh)<;>(try (exfalso;omega)))))
   refine ih1 _ ⟨by dsimp only;omega,d1,by simp;omega,by dsimp only;omega,fun x hx=>?_⟩ (by dsimp only;omega)
   rcases List.mem_append.1 hx with hx| hx
   ·exact a5 x hx
   ·rw [one_mem hx];exact .store _ _ ⟨a1,by omega⟩ ⟨d2,by omega⟩
  ·exact ih1 _ ⟨by dsimp only;omega,b1,by dsimp only;omega,by dsimp only;omega,a5⟩ (by dsimp only;omega)
 (repeat' (first| (refine WP.chk (by (first| omega| (simp only [wpN] at*;omega))) fun _=>?_)| ((refine WP.bif (fun wh=>?_) (fun wh=>?_))<;>(try simp only [wpH] at wh)<;>(try (exfalso;omega)))))
 refine WP.call (next_sp _ _ a2 (by omega)) fun x4 ⟨b1,b2,b3,_⟩=>?_
 refine WP.loop (fun j=>0≤j.1∧okC j.2.1∧(j.2.2.length:Int)+5*j.1≤600∧∀x∈j.2.2,WfI ps.length i (atD ps i) x1.1 (fun t=>t= -1) x) (fun j=>j.1.toNat) ⟨b2,b1,by dsimp only;omega,a5⟩ ?_
 rintro again2 ⟨n2,c3,code2⟩ ⟨d1,d2,d3,d4⟩ ih2
 dsimp only at d1 d2 d3 d4 ih2 ⊢
 refine WP.bif (fun wh=>?_) (fun wh=>?_)<;>(try simp only [wpH] at wh)
 ·refine WP.call (body_sp c3 ⟨atD ps i,x1.1,[]⟩ i ps d2 (by dsimp only;omega) (by dsimp only;omega) (by omega) hps) fun x5 ⟨e1,e2,e3⟩=>?_
  have e4:∀x∈code2++x5.1,WfI ps.length i (atD ps i) x1.1 (fun t=>t= -1) x:=fun x hx=>(List.mem_append.1 hx).elim (d4 x) (e3 x)
  (repeat' (first| (refine WP.chk (by (first| omega| (simp only [wpN] at*;omega))) fun _=>?_)| ((refine WP.bif (fun wh=>?_) (fun wh=>?_))<;>(try simp only [wpH] at wh)<;>(try (exfalso;omega)))))
  refine WP.call (next_sp _ 9 e1 (by omega)) fun x6 ⟨f1,f2,f3,_⟩=>?_
  (repeat' (first| (refine WP.chk (by (first| omega| (simp only [wpN] at*;omega))) fun _=>?_)| ((refine WP.bif (fun wh=>?_) (fun wh=>?_))<;>(try simp only [wpH] at wh)<;>(try (exfalso;omega)))))
  ·refine WP.call (next_sp _ 4 f1 (by omega)) fun x7 ⟨g1,g2,g3,_⟩=>?_
   (repeat' (first| (refine WP.chk (by (first| omega| (simp only [wpN] at*;omega))) fun _=>?_)| ((refine WP.bif (fun wh=>?_) (fun wh=>?_))<;>(try simp only [wpH] at wh)<;>(try (exfalso;omega)))))
   refine ih2 _ ⟨by dsimp only;omega,g1,by simp;omega,fun x hx=>?_⟩ (by dsimp only;omega)
   rcases List.mem_append.1 hx with hx| hx
   ·exact e4 x hx
   ·rw [one_mem hx];exact .branch _ _ ⟨g2,by omega⟩ rfl
  ·refine WP.call (next_sp _ 3 f1 (by omega)) fun x8 ⟨g1,g2,g3,_⟩=>?_
   (repeat' (first| (refine WP.chk (by (first| omega| (simp only [wpN] at*;omega))) fun _=>?_)| ((refine WP.bif (fun wh=>?_) (fun wh=>?_))<;>(try simp only [wpH] at wh)<;>(try (exfalso;omega)))))
   ·refine ih2 _ ⟨by dsimp only;omega,g1,by simp;omega,fun x hx=>?_⟩ (by dsimp only;omega)
    rcases List.mem_append.1 hx with hx| hx
    ·exact e4 x hx
    ·rw [one_mem hx];exact .jump _ rfl
   ·exact ih2 _ ⟨by dsimp only;omega,g1,by simp;omega,e4⟩ (by dsimp only;omega)
  ·exact ih2 _ ⟨by dsimp only;omega,f1,by simp;omega,e4⟩ (by dsimp only;omega)
 refine WP.join (fun j=>okC j.1∧WfI ps.length i (atD ps i) x1.1 (fun t=>t= -1) ⟨j.2.1,0,0,0,j.2.2⟩∧(j.2.1=23∨j.2.1=24)) ?_ ?_
 ·rintro ⟨c4,o,w⟩ ⟨e1,e2,e3⟩
  dsimp only at e1 e2 e3 ⊢
  (repeat' (first| (refine WP.chk (by (first| omega| (simp only [wpN] at*;omega))) fun _=>?_)| ((refine WP.bif (fun wh=>?_) (fun wh=>?_))<;>(try simp only [wpH] at wh)<;>(try (exfalso;omega)))))
  generalize hL:code2.length+1=L
  have hlen:(code2++[(⟨o,0,0,0,w⟩:AInstr)]).length=L:=by simp [hL]
  refine WP.loop (fun j=>0≤j.1∧okC j.2.1∧j.1≤L∧j.2.2.length=L∧(∀t:Int,0≤t→t<j.1→WfI ps.length i (atD ps i) x1.1 (fun t=>inN t L) (atD j.2.2 t))∧(∀t:Int,j.1≤t→t<L→WfI ps.length i (atD ps i) x1.1 (fun t=>t= -1) (atD j.2.2 t))∧((atD j.2.2 ((L:Int)- 1)).Op=23∨(atD j.2.2 ((L:Int)- 1)).Op=24)) (fun j=>L- j.1.toNat) ⟨by simp,e1,by dsimp only;omega,hlen,by intro t h1 h2;dsimp only at h2;omega,?_,?_⟩ ?_
  ·intro t h1 h2
   dsimp only at h1 ⊢
   by_cases ht:t=(code2.length:Int)
   ·rw [atD_last ht];exact e2
   ·rw [atD_append_left (by omega)];exact d4 _ (atD_mem ⟨h1,by omega⟩)
  ·dsimp only
   rw [atD_last (by omega)]
   exact e3
  rintro again3 ⟨k,c5,code3⟩ ⟨f1,f2,f3,f4,f5,f6,f7⟩ ih3
  dsimp only at f1 f2 f3 f4 f5 f6 f7 ih3 ⊢
  have fin:∀(c6:DCodes) (v:AInstr),okC c6→k<L→WfI ps.length i (atD ps i) x1.1 (fun t=>inN t L) v→v.Op=(atD code3 k).Op→∀(hh:∀j',(0≤j'.1∧okC j'.2.1∧j'.1≤(L:Int)∧j'.2.2.length=L∧(∀t:Int,0≤t→t<j'.1→WfI ps.length i (atD ps i) x1.1 (fun t=>inN t L) (atD j'.2.2 t))∧(∀t:Int,j'.1≤t→t<L→WfI ps.length i (atD ps i) x1.1 (fun t=>t= -1) (atD j'.2.2 t))∧((atD j'.2.2 ((L:Int)- 1)).Op=23∨(atD j'.2.2 ((L:Int)- 1)).Op=24))→L- j'.1.toNat<L- k.toNat→WP (again3 j') fun r=>okC r.2∧WfF ps.length i (atD ps i) r.1),WP (again3 (k+1,c6,setD code3 k v)) fun r=>okC r.2∧WfF ps.length i (atD ps i) r.1:=by
   intro c6 v q1 q2 q3 q4 hh
   refine hh _ ⟨by dsimp only;omega,q1,by dsimp only;omega,by dsimp only;rw [length_setD,f4],fun t h1 h2=>?_,fun t h1 h2=>?_,?_⟩ (by dsimp only;omega)
   ·dsimp only at h2 ⊢
    rw [atD_setD ⟨f1,by omega⟩ h1]
    split
    ·exact q3
    ·exact f5 t h1 (by omega)
   ·dsimp only at h1 ⊢
    rw [atD_setD ⟨f1,by omega⟩ (by omega),if_neg (by omega)]
    exact f6 t (by omega) h2
   ·dsimp only
    rw [atD_setD ⟨f1,by omega⟩ (by omega)]
    split
    ·rename_i h;rw [q4,←h];exact f7
    ·exact f7
  have fin2:∀(c6:DCodes),okC c6→k<L→WfI ps.length i (atD ps i) x1.1 (fun t=>inN t L) (atD code3 k)→WP (again3 (k+1,c6,code3)) fun r=>okC r.2∧WfF ps.length i (atD ps i) r.1:=by
   intro c6 q1 q2 q3
   refine ih3 _ ⟨by dsimp only;omega,q1,by dsimp only;omega,f4,fun t h1 h2=>?_,fun t h1 h2=>?_,f7⟩ (by dsimp only;omega)
   ·dsimp only at h2
    by_cases ht:t=k
    ·rw [ht];exact q3
    ·exact f5 t h1 (by omega)
   ·dsimp only at h1;exact f6 t (by omega) h2
  refine WP.bif (fun wh=>?_) (fun wh=>?_)<;>(try simp only [wpH] at wh)
  ·rw [f4] at wh
   have hkL:=wh
   have f8:=f6 k (by omega) wh
   refine WP.call (next_sp _ 8 f2 (by omega)) fun x9 ⟨g1,g2,g3,_⟩=>?_
   (repeat' (first| (refine WP.chk (by (first| omega| (simp only [wpN] at*;omega))) fun _=>?_)| ((refine WP.bif (fun wh=>?_) (fun wh=>?_))<;>(try simp only [wpH] at wh)<;>(try (exfalso;omega)))))
   refine WP.join (fun t=>inN t L) ?_ ?_
   ·intro t ht
    (repeat' (first| (refine WP.chk (by (first| omega| (simp only [wpN] at*;omega))) fun _=>?_)| ((refine WP.bif (fun wh=>?_) (fun wh=>?_))<;>(try simp only [wpH] at wh)<;>(try (exfalso;omega)))))
    ·exact fin _ _ g1 hkL (f8.jmp (by assumption) t ht) rfl ih3
    ·exact fin2 _ g1 hkL (f8.done (fun _=>by omega) (fun h=>by omega))
    ·exact fin _ _ g1 hkL (f8.brn (by assumption) t ht) rfl ih3
    ·exact fin2 _ g1 hkL (f8.done (fun h=>by omega) (fun _=>by omega))
    ·exact fin2 _ g1 hkL (f8.done (fun h=>by omega) (fun h=>by omega))
   ·intro k3 hk3
    (repeat' (first| (refine WP.chk (by (first| omega| (simp only [wpN] at*;omega))) fun _=>?_)| ((refine WP.bif (fun wh=>?_) (fun wh=>?_))<;>(try simp only [wpH] at wh)<;>(try (exfalso;omega)))))
    all_goals (refine hk3 _ ⟨?_,?_⟩<;>omega)
  ·refine WP.ret ⟨f2,rfl,?_,h3,⟨by dsimp only;omega,by dsimp only;omega⟩,fun x hx=>?_,?_⟩
   ·dsimp only;omega
   ·obtain ⟨t,h1,h2,rfl⟩:=mem_atD hx
    dsimp only at h2 ⊢
    rw [f4]
    exact f5 t h1 (by omega)
   ·dsimp only;rw [f4];exact f7
 ·intro k1 hk1
  refine WP.call (next_sp _ 12 d2 (by omega)) fun x10 ⟨e1,e2,e3,_⟩=>?_
  (repeat' (first| (refine WP.chk (by (first| omega| (simp only [wpN] at*;omega))) fun _=>?_)| ((refine WP.bif (fun wh=>?_) (fun wh=>?_))<;>(try simp only [wpH] at wh)<;>(try (exfalso;omega)))))
  ·refine WP.call (word_sp _ e1) fun x11 ⟨g1,g2⟩=>hk1 _ ⟨g1,.trap _ g2,.inr rfl⟩
  ·exact hk1 _ ⟨e1,.ret,.inl rfl⟩
structure WfP (p:AProgram):Prop where
 len:1≤p.Funcs.length∧p.Funcs.length≤80
 entry:(atD p.Funcs 0).Params=0
 par:∀f∈p.Funcs,0≤f.Params∧f.Params≤3
 func:∀i:Int,0≤i→i<p.Funcs.length→WfF p.Funcs.length i (atD p.Funcs i).Params (atD p.Funcs i)
theorem program_sp (c:DCodes) (funcs most:Int) (hc:okC c) (hf:1≤funcs∧funcs≤80) (hm:0≤most∧most≤100):WP (draw_Program c funcs most) fun r=>okC r.2∧WfP r.1∧(r.1.Funcs.length:Int)≤funcs:=by
 unfold draw_Program
 refine WP.call (next_sp c funcs hc (by omega)) fun x1 ⟨h1,h2,h3,_⟩=>?_
 have h4:=h3 (by omega)
 refine WP.loop (fun j=>0≤j.1∧okC j.2.1∧1≤j.2.2.length∧(j.2.2.length:Int)+j.1≤funcs∧atD j.2.2 0=0∧∀x∈j.2.2,0≤x∧x≤3) (fun j=>j.1.toNat) ⟨h2,h1,by simp,by simp;omega,rfl,by simp⟩ ?_
 rintro again1 ⟨n,c2,ps⟩ ⟨a1,a2,a3,a4,a5,a6⟩ ih
 dsimp only at a1 a2 a3 a4 a5 a6 ih ⊢
 refine WP.bif (fun wh=>?_) (fun wh=>?_)<;>(try simp only [wpH] at wh)
 ·refine WP.call (next_sp _ 4 a2 (by omega)) fun x2 ⟨b1,b2,b3,_⟩=>?_
  (repeat' (first| (refine WP.chk (by (first| omega| (simp only [wpN] at*;omega))) fun _=>?_)| ((refine WP.bif (fun wh=>?_) (fun wh=>?_))<;>(try simp only [wpH] at wh)<;>(try (exfalso;omega)))))
  refine ih _ ⟨by dsimp only;omega,b1,by simp,by simp;omega,?_,fun x hx=>?_⟩ (by dsimp only;omega)
  ·dsimp only;rw [atD_append_left (by show 0<_;omega)];exact a5
  ·rcases List.mem_append.1 hx with hx| hx
   ·exact a6 x hx
   ·rw [one_mem hx];omega
 refine WP.loop (fun j=>j.1=ps∧0≤j.2.1∧okC j.2.2.1∧(j.2.2.2.length:Int)=j.2.1∧j.2.1≤ps.length∧∀t:Int,0≤t→t<j.2.1→WfF ps.length t (atD ps t) (atD j.2.2.2 t)) (fun j=>ps.length- j.2.1.toNat) ⟨rfl,by simp,a2,by simp,by simp,by intro t h1 h2;dsimp only at h2;omega⟩ ?_
 rintro again2 ⟨ps2,i,c3,fs⟩ ⟨rfl,d2,d3,d4,d5,d6⟩ ih2
 dsimp only at a3 a4 a5 a6 d2 d3 d4 d5 d6 ih2 ⊢
 refine WP.bif (fun wh=>?_) (fun wh=>?_)<;>(try simp only [wpH] at wh)
 ·(repeat' (first| (refine WP.chk (by (first| omega| (simp only [wpN] at*;omega))) fun _=>?_)| ((refine WP.bif (fun wh=>?_) (fun wh=>?_))<;>(try simp only [wpH] at wh)<;>(try (exfalso;omega)))))
  refine WP.call (function_sp c3 i _ most d3 ⟨d2,wh⟩ hm ⟨by omega,a6⟩) fun x3 ⟨e1,e2⟩=>?_
  (repeat' (first| (refine WP.chk (by (first| omega| (simp only [wpN] at*;omega))) fun _=>?_)| ((refine WP.bif (fun wh=>?_) (fun wh=>?_))<;>(try simp only [wpH] at wh)<;>(try (exfalso;omega)))))
  refine ih2 _ ⟨rfl,by dsimp only;omega,e1,by simp;omega,by dsimp only;omega,fun t h1 h2=>?_⟩ (by dsimp only;omega)
  dsimp only at h2 ⊢
  by_cases ht:t=i
  ·rw [atD_last (by omega),ht];exact e2
  ·rw [atD_append_left (by omega)];exact d6 t h1 (by omega)
 ·have e:(fs.length:Int)=ps2.length:=by omega
  have hp:∀t:Int,0≤t→t<fs.length→(atD fs t).Params=atD ps2 t:=fun t h1 h2=>(d6 t h1 (by omega)).parq
  refine WP.ret ⟨d3,⟨⟨by dsimp only;omega,by dsimp only;omega⟩,?_,fun f hf=>?_,fun t h1 h2=>?_⟩,by dsimp only;omega⟩
  ·dsimp only;rw [hp 0 (by omega) (by omega)];exact a5
  ·obtain ⟨t,h1,h2,rfl⟩:=mem_atD hf
   dsimp only at h2
   rw [hp t h1 h2]
   exact a6 _ (atD_mem ⟨h1,by omega⟩)
  ·dsimp only at h2 ⊢
   rw [hp t h1 h2,e]
   exact d6 t h1 (by omega)
def isU8 (cs:List Int):Prop:=∀x∈cs,0≤x∧x≤255
theorem take_atD {α:Type} [Inhabited α] {l:List α} {k:Int} (h:0≤k∧k<(l.length:Int)):l.take (k+1).toNat=l.take k.toNat++[atD l k]:=by
 have h1:k.toNat<l.length:=by omega
 rw [show (k+1).toNat=k.toNat+1 by omega,List.take_succ_eq_append_getElem h1]
 congr 1
 have:=atD_nat h1
 rw [Int.toNat_of_nonneg h.1] at this
 rw [this]
theorem take_all {α:Type} {l:List α} {k:Int} (h:(l.length:Int)≤k):l.take k.toNat=l:=List.take_of_length_le (by omega)
def sizeB (n:Int):Bool:=decide (n=1∨n=2∨n=4∨n=8∨n=16)
theorem size_sp (n:Int):WP (r02_Size n) (·=sizeB n):=by
 unfold r02_Size sizeB
 (repeat' (first| (refine WP.chk (by (first| omega| (simp only [wpN] at*;omega))) fun _=>?_)| ((refine WP.bif (fun wh=>?_) (fun wh=>?_))<;>(try simp only [wpH] at wh)<;>(try (exfalso;omega)))))
 all_goals (refine WP.ret ?_;simp_all)
def powL:Nat→Int→List Int
 | 0,_=>[]
 | n+1,k=>k::powL n (k*2)
def powB (n:Int):Bool:=decide (n∈powL 25 1)
theorem power_sp (n:Int):WP (r03_Power n) (·=powB n):=by
 unfold r03_Power powB
 refine WP.loop (fun j=>∃m:Nat,m≤25∧j=2 ^ (25- m)∧(n∈powL 25 1↔n∈powL m j)) (fun j=>(33554433- j).toNat) ⟨25,by omega,rfl,Iff.rfl⟩ ?_
 rintro again j ⟨m,hm,hj,hi⟩ ih
 have hj0:0<j:=by rw [hj];exact Int.pow_pos (by omega)
 refine WP.bif (fun wh=>?_) (fun wh=>?_)<;>(try simp only [wpH] at wh)
 ·obtain ⟨m',rfl⟩:∃m',m=m'+1:=by
   cases m with
   | zero=>exfalso;rw [hj] at wh;revert wh;decide
   | succ m'=>exact ⟨m',rfl⟩
  (repeat' (first| (refine WP.chk (by (first| omega| (simp only [wpN] at*;omega))) fun _=>?_)| ((refine WP.bif (fun wh=>?_) (fun wh=>?_))<;>(try simp only [wpH] at wh)<;>(try (exfalso;omega)))))
  ·refine WP.ret ?_
   rw [eq_comm,decide_eq_true_eq,hi]
   rw [wh]
   exact List.mem_cons_self
  ·refine ih _ ⟨m',by omega,?_,?_⟩ (by omega)
   ·rw [hj,←Int.pow_succ];congr 1;omega
   ·rw [hi]
    exact ⟨fun q=>(List.mem_cons.1 q).resolve_left wh,fun q=>List.mem_cons_of_mem _ q⟩
 ·have hm0:m=0:=by
   have:m=0∨1≤m:=by omega
   rcases this with h| h
   ·exact h
   ·exfalso
    have h2:2 ^ (25- m)≤2 ^ 24:=Nat.pow_le_pow_right (by omega) (by omega)
    have h3:(2:Int) ^ (25- m)=((2 ^ (25- m):Nat):Int):=by rw [Int.natCast_pow];rfl
    rw [←hj] at h3
    omega
  subst hm0
  refine WP.ret ?_
  rw [eq_comm,decide_eq_false_iff_not,hi]
  exact List.not_mem_nil
theorem powB_small {n:Int} (h:n=1∨n=2∨n=4∨n=8∨n=16∨n=32∨n=64):powB n=true:=by
 rcases h with h| h| h| h| h| h| h<;>subst h<;>decide
def slotB (s:ASlot):Bool:=sizeB s.Size&&powB s.Align
def slotsE (s:List ASlot):Int:=if 512<s.length then 3 else if s.all slotB then 0 else 5
theorem slots3_sp (s:List ASlot) (hl:s.length≤1000000000):WP (r03_Slots s) (·=slotsE s):=by
 unfold r03_Slots slotsE
 refine WP.bif (fun wh=>?_) (fun wh=>?_)<;>(try simp only [wpH] at wh)
 ·exact WP.ret (by rw [if_pos (by omega)])
 rw [if_neg (by omega)]
 refine WP.loop (fun j=>0≤j∧j≤s.length∧(s.take j.toNat).all slotB=true) (fun j=>s.length- j.toNat) ⟨by omega,by omega,rfl⟩ ?_
 rintro again i ⟨h1,h2,h3⟩ ih
 refine WP.bif (fun wh=>?_) (fun wh=>?_)<;>(try simp only [wpH] at wh)
 ·have hm:atD s i∈s:=atD_mem ⟨h1,wh⟩
  have hbad:slotB (atD s i)=false→(if s.all slotB=true then (0:Int) else 5)=5:=fun hb=>by
   rw [if_neg]
   intro ha
   rw [List.all_eq_true.1 ha _ hm] at hb
   cases hb
  (repeat' (first| (refine WP.chk (by (first| omega| (simp only [wpN] at*;omega))) fun _=>?_)| ((refine WP.bif (fun wh=>?_) (fun wh=>?_))<;>(try simp only [wpH] at wh)<;>(try (exfalso;omega)))))
  refine WP.call (size_sp _) ?_
  rintro _ rfl
  refine WP.bif (fun wh=>?_) (fun wh=>?_)<;>(try simp only [wpH] at wh)
  ·exact WP.ret (hbad (by unfold slotB;rw [wh];rfl)).symm
  have hs:=wh
  (repeat' (first| (refine WP.chk (by (first| omega| (simp only [wpN] at*;omega))) fun _=>?_)| ((refine WP.bif (fun wh=>?_) (fun wh=>?_))<;>(try simp only [wpH] at wh)<;>(try (exfalso;omega)))))
  refine WP.call (power_sp _) ?_
  rintro _ rfl
  refine WP.bif (fun wh=>?_) (fun wh=>?_)<;>(try simp only [wpH] at wh)
  ·exact WP.ret (hbad (by unfold slotB;rw [wh];simp)).symm
  have hp:=wh
  (repeat' (first| (refine WP.chk (by (first| omega| (simp only [wpN] at*;omega))) fun _=>?_)| ((refine WP.bif (fun wh=>?_) (fun wh=>?_))<;>(try simp only [wpH] at wh)<;>(try (exfalso;omega)))))
  refine ih _ ⟨by omega,by omega,?_⟩ (by omega)
  rw [take_atD ⟨h1,by assumption⟩,List.all_append,h3]
  simp [slotB,hs,hp]
 ·refine WP.ret ?_
  rw [take_all (by omega)] at h3
  rw [if_pos h3]
theorem rightS.slotB {s:ASlot} (h:rightS s):slotB s=true:=by
 unfold Go.Proofs.YtgbkhjllbgmdcaaGreat.Q.slotB
 rw [powB_small h.2]
 simp [sizeB,h.1]
theorem slotsE_right {s:List ASlot} (hl:s.length≤512) (h:∀x∈s,rightS x):slotsE s=0:=by
 unfold slotsE
 rw [if_neg (by omega),if_pos (List.all_eq_true.2 fun x hx=>(h x hx).slotB)]
def alignS (s:List ASlot):Int:=s.foldl (fun a x=>max a x.Align) 16
theorem align3_sp (s:List ASlot) (hl:s.length≤1000000000):WP (r03_Align s) (·=if slotsE s=0 then alignS s else 16):=by
 unfold r03_Align
 refine WP.call (slots3_sp s hl) ?_
 rintro _ rfl
 refine WP.bif (fun wh=>?_) (fun wh=>?_)<;>(try simp only [wpH] at wh)
 ·exact WP.ret (by rw [if_neg wh])
 rw [if_pos wh]
 refine WP.loop (fun j=>0≤j.2∧j.2≤s.length∧j.1=alignS (s.take j.2.toNat)) (fun j=>s.length- j.2.toNat) ⟨by simp,by simp,rfl⟩ ?_
 rintro again ⟨a,i⟩ ⟨h1,h2,h3⟩ ih
 dsimp only at h1 h2 h3 ih ⊢
 (repeat' (first| (refine WP.chk (by (first| omega| (simp only [wpN] at*;omega))) fun _=>?_)| ((refine WP.bif (fun wh=>?_) (fun wh=>?_))<;>(try simp only [wpH] at wh)<;>(try (exfalso;omega)))))
 ·refine ih _ ⟨by dsimp only;omega,by dsimp only;omega,?_⟩ (by dsimp only;omega)
  dsimp only
  rw [take_atD ⟨h1,by assumption⟩,alignS,List.foldl_append,h3]
  rfl
 ·refine WP.ret ?_
  rw [h3,take_all (by omega)]
def alR (a:Int):Prop:=a=16∨a=32∨a=64
theorem alignS_R {s:List ASlot} (h:∀x∈s,rightS x):alR (alignS s)∧∀x∈s,x.Align≤alignS s:=by
 have key:∀(l:List ASlot) (a:Int),alR a→(∀x∈l,rightS x)→alR (l.foldl (fun a x=>max a x.Align) a)∧a≤l.foldl (fun a x=>max a x.Align) a∧∀x∈l,x.Align≤l.foldl (fun a x=>max a x.Align) a:=by
  intro l
  induction l with
  | nil=>intro a ha _;exact ⟨ha,Int.le_refl _,by simp⟩
  | cons y r ih=>
    intro a ha hy
    have h1:=(hy y List.mem_cons_self).2
    have h2:alR (max a y.Align):=by unfold alR at ha ⊢;omega
    obtain ⟨h3,h4,h5⟩:=ih _ h2 fun x hx=>hy x (List.mem_cons_of_mem _ hx)
    refine ⟨h3,by rw [List.foldl_cons];omega,fun x hx=>?_⟩
    rw [List.foldl_cons]
    rcases List.mem_cons.1 hx with rfl| hx
    ·omega
    ·exact h5 x hx
 obtain ⟨h1,_,h2⟩:=key s 16 (.inl rfl) h
 exact ⟨h1,h2⟩
def alignP (p:AProgram):Int:=p.Funcs.foldl (fun a f=>max a (alignS f.Slots)) 16
theorem WfP.slotsR {p:AProgram} (hp:WfP p) {f:AFunc} (hf:f∈p.Funcs):f.Slots.length≤6∧∀x∈f.Slots,rightS x:=by
 obtain ⟨t,h1,h2,rfl⟩:=mem_atD hf
 exact ⟨(hp.func t h1 h2).slots,(hp.func t h1 h2).rightS⟩
theorem align5_sp (p:AProgram) (hp:WfP p):WP (r05_Align p) (·=alignP p):=by
 unfold r05_Align
 have hl:=hp.len
 refine WP.loop (fun j=>0≤j.2∧j.2≤p.Funcs.length∧j.1=alignP ⟨p.Funcs.take j.2.toNat⟩) (fun j=>p.Funcs.length- j.2.toNat) ⟨by simp,by simp,rfl⟩ ?_
 rintro again ⟨a,i⟩ ⟨h1,h2,h3⟩ ih
 dsimp only at h1 h2 h3 ih ⊢
 (repeat' (first| (refine WP.chk (by (first| omega| (simp only [wpN] at*;omega))) fun _=>?_)| ((refine WP.bif (fun wh=>?_) (fun wh=>?_))<;>(try simp only [wpH] at wh)<;>(try (exfalso;omega)))))
 ·obtain ⟨h4,h5⟩:=hp.slotsR (atD_mem (l:=p.Funcs) ⟨h1,by assumption⟩)
  refine WP.call (align3_sp _ (by omega)) ?_
  rintro _ rfl
  (repeat' (first| (refine WP.chk (by (first| omega| (simp only [wpN] at*;omega))) fun _=>?_)| ((refine WP.bif (fun wh=>?_) (fun wh=>?_))<;>(try simp only [wpH] at wh)<;>(try (exfalso;omega)))))
  refine ih _ ⟨by dsimp only;omega,by dsimp only;omega,?_⟩ (by dsimp only;omega)
  dsimp only
  rw [take_atD ⟨h1,by assumption⟩,alignP,List.foldl_append,h3,if_pos (slotsE_right (by omega) h5)]
  rfl
 ·refine WP.ret ?_
  rw [h3,take_all (by omega)]
theorem alignP_R {p:AProgram} (hp:WfP p):alR (alignP p)∧∀f∈p.Funcs,alignS f.Slots≤alignP p:=by
 have key:∀(l:List AFunc) (a:Int),alR a→(∀f∈l,alR (alignS f.Slots))→alR (l.foldl (fun a f=>max a (alignS f.Slots)) a)∧a≤l.foldl (fun a f=>max a (alignS f.Slots)) a∧∀f∈l,alignS f.Slots≤l.foldl (fun a f=>max a (alignS f.Slots)) a:=by
  intro l
  induction l with
  | nil=>intro a ha _;exact ⟨ha,Int.le_refl _,by simp⟩
  | cons y r ih=>
    intro a ha hy
    have h1:=hy y List.mem_cons_self
    have h2:alR (max a (alignS y.Slots)):=by unfold alR at ha h1 ⊢;omega
    obtain ⟨h3,h4,h5⟩:=ih _ h2 fun x hx=>hy x (List.mem_cons_of_mem _ hx)
    refine ⟨h3,by rw [List.foldl_cons];omega,fun x hx=>?_⟩
    rw [List.foldl_cons]
    rcases List.mem_cons.1 hx with rfl| hx
    ·omega
    ·exact h5 x hx
 obtain ⟨h1,_,h2⟩:=key p.Funcs 16 (.inl rfl) fun f hf=>(alignS_R (hp.slotsR hf).2).1
 exact ⟨h1,h2⟩
def needA (p:AProgram) (x:AInstr):Int:=if x.Op=18 then x.A+1 else if x.Op=22 then (atD p.Funcs x.A).Params else 0
def argsN (p:AProgram) (l:List AInstr):Int:=l.foldl (fun n x=>max n (needA p x)) 0
theorem argsN_snoc (p:AProgram) (l:List AInstr) (x:AInstr):argsN p (l++[x])=max (argsN p l) (needA p x):=by
 unfold argsN;rw [List.foldl_append];rfl
theorem WfI.need {p:AProgram} (hp:WfP p) {i par:Int} {sl:List ASlot} {J:Int→Prop} {x:AInstr} (hi:0≤i) (h:WfI p.Funcs.length i par sl J x):0≤needA p x∧needA p x≤8∧(x.Op=18→0≤x.A∧x.A<8)∧(x.Op=22→i<x.A∧x.A<p.Funcs.length):=by
 cases h with
 | arg a r ha hr=>obtain ⟨h1,h2⟩:=ha;simp [needA];omega
 | call f h1 h2=>
   have:=hp.par _ (atD_mem (l:=p.Funcs) (i:=f) ⟨by omega,h2⟩)
   simp [needA];omega
 | copy o a b ho ha hb=>
   have h1:¬o=18:=by omega
   have h2:¬o=22:=by omega
   simp [needA,h1,h2]
 | arith o a b c h1 h2=>
   have h3:¬o=18:=by omega
   have h4:¬o=22:=by omega
   simp [needA,h3,h4]
 | io o a ho=>
   have h1:¬o=18:=by omega
   have h2:¬o=22:=by omega
   simp [needA,h1,h2]
 | _=>simp [needA]
theorem WfP.at_ {p:AProgram} (hp:WfP p) {i k:Int} (hi:inN i p.Funcs.length) (hk:inN k (atD p.Funcs i).Code.length):WfI p.Funcs.length i (atD p.Funcs i).Params (atD p.Funcs i).Slots (fun t=>inN t (atD p.Funcs i).Code.length) (atD (atD p.Funcs i).Code k):=(hp.func i hi.1 hi.2).instr _ (atD_mem hk)
theorem argsN_R {p:AProgram} (hp:WfP p) {i:Int} (hi:inN i p.Funcs.length) {l:List AInstr} (hl:∀x∈l,x∈(atD p.Funcs i).Code):0≤argsN p l∧argsN p l≤8∧(∀x∈l,needA p x≤argsN p l)∧(argsN p l=0∨∃x∈l,needA p x=argsN p l):=by
 have key:∀(l:List AInstr) (a:Int),0≤a→a≤8→(∀x∈l,0≤needA p x∧needA p x≤8)→a≤l.foldl (fun n x=>max n (needA p x)) a∧l.foldl (fun n x=>max n (needA p x)) a≤8∧(∀x∈l,needA p x≤l.foldl (fun n x=>max n (needA p x)) a)∧(l.foldl (fun n x=>max n (needA p x)) a=a∨∃x∈l,needA p x=l.foldl (fun n x=>max n (needA p x)) a):=by
  intro l
  induction l with
  | nil=>intro a h1 h2 _;exact ⟨Int.le_refl _,h2,by simp,.inl rfl⟩
  | cons y r ih=>
    intro a h1 h2 h3
    have h4:=h3 y List.mem_cons_self
    obtain ⟨h5,h6,h7,h8⟩:=ih (max a (needA p y)) (by omega) (by omega) fun x hx=>h3 x (List.mem_cons_of_mem _ hx)
    rw [List.foldl_cons]
    refine ⟨by omega,h6,fun x hx=>?_,?_⟩
    ·rcases List.mem_cons.1 hx with rfl| hx
     ·omega
     ·exact h7 x hx
    ·rcases h8 with h8| ⟨x,hx,h8⟩
     ·rcases Int.le_total a (needA p y) with h9| h9
      ·exact .inr ⟨y,List.mem_cons_self,by omega⟩
      ·exact .inl (by omega)
     ·exact .inr ⟨x,List.mem_cons_of_mem _ hx,h8⟩
 obtain ⟨h1,h2,h3,h4⟩:=key l 0 (by omega) (by omega) fun x hx=>by
  have:=((hp.func i hi.1 hi.2).instr x (hl x hx)).need hp hi.1
  omega
 exact ⟨h1,h2,h3,h4⟩
theorem args24_sp (p:AProgram) (i:Int) (hp:WfP p) (hi:inN i p.Funcs.length):WP (pack_Args p i) (·=16*argsN p (atD p.Funcs i).Code):=by
 unfold pack_Args
 obtain ⟨hi1,hi2⟩:=hi
 have hc:=(hp.func i hi1 hi2).code
 (repeat' (first| (refine WP.chk (by (first| omega| (simp only [wpN] at*;omega))) fun _=>?_)| ((refine WP.bif (fun wh=>?_) (fun wh=>?_))<;>(try simp only [wpH] at wh)<;>(try (exfalso;omega)))))
 generalize hf:atD p.Funcs i=f at*
 have hT:∀k:Int,0≤argsN p (f.Code.take k.toNat)∧argsN p (f.Code.take k.toNat)≤8:=fun k=>by
  have:=argsN_R hp ⟨hi1,hi2⟩ (l:=f.Code.take k.toNat) fun x hx=>by rw [hf];exact List.take_subset _ _ hx
  omega
 refine WP.loop (fun j=>0≤j.2∧j.2≤f.Code.length∧j.1=argsN p (f.Code.take j.2.toNat)) (fun j=>f.Code.length- j.2.toNat) ⟨by simp,by simp,rfl⟩ ?_
 rintro again ⟨n,k⟩ ⟨h1,h2,h3⟩ ih
 dsimp only at h1 h2 h3 ih ⊢
 have hTk:=hT k
 rw [←h3] at hTk
 refine WP.bif (fun wh=>?_) (fun wh=>?_)<;>(try simp only [wpH] at wh)
 ·have hN:=(hp.at_ (i:=i) (k:=k) ⟨hi1,hi2⟩ ⟨h1,by rw [hf];exact wh⟩).need hp hi1
  rw [hf] at hN
  have hs:∀m,needA p (atD f.Code k)=m→max n m=argsN p (f.Code.take (k+1).toNat):=fun m hm=>by
   rw [take_atD ⟨h1,wh⟩,argsN_snoc,←h3,hm]
  generalize hx:atD f.Code k=x at*
  (repeat' (first| (refine WP.chk (by (first| omega| (simp only [wpN] at*;omega))) fun _=>?_)| ((refine WP.bif (fun wh=>?_) (fun wh=>?_))<;>(try simp only [wpH] at wh)<;>(try (exfalso;omega)))))
  ·exact ih _ ⟨by dsimp only;omega,by dsimp only;omega,hs _ (by unfold needA;rw [if_pos (by assumption)])⟩ (by dsimp only;omega)
  ·exact ih _ ⟨by dsimp only;omega,by dsimp only;omega,hs _ (by unfold needA;rw [if_neg (by assumption),if_pos (by assumption)])⟩ (by dsimp only;omega)
  ·refine ih _ ⟨by dsimp only;omega,by dsimp only;omega,?_⟩ (by dsimp only;omega)
   have:=hs 0 (by unfold needA;rw [if_neg (by assumption),if_neg (by assumption)])
   dsimp only
   omega
 ·(repeat' (first| (refine WP.chk (by (first| omega| (simp only [wpN] at*;omega))) fun _=>?_)| ((refine WP.bif (fun wh=>?_) (fun wh=>?_))<;>(try simp only [wpH] at wh)<;>(try (exfalso;omega)))))
  refine WP.ret ?_
  rw [h3,take_all (by omega)]
theorem mem_powL {n:Int}:∀{m:Nat} {k:Int},n∈powL m k↔∃j:Nat,j<m∧n=k*2 ^ j
 | 0,k=>by simp [powL]
 | m+1,k=>by
   unfold powL
   rw [List.mem_cons,mem_powL]
   constructor
   ·rintro (rfl| ⟨j,h1,rfl⟩)
    ·exact ⟨0,by omega,by simp⟩
    ·exact ⟨j+1,by omega,by rw [Int.pow_succ,Int.mul_assoc,Int.mul_comm 2]⟩
   ·rintro ⟨j,h1,rfl⟩
    cases j with
    | zero=>exact .inl (by simp)
    | succ j=>exact .inr ⟨j,by omega,by rw [Int.pow_succ,Int.mul_assoc,Int.mul_comm 2]⟩
theorem powB_eq (n:Int):powB n=Go.Proofs.YtgbkhjllbgmdcaaGreat.powB n:=by
 rw [Bool.eq_iff_iff,Go.Proofs.YtgbkhjllbgmdcaaGreat.powB_iff]
 unfold powB
 rw [decide_eq_true_eq,mem_powL]
 constructor
 ·rintro ⟨j,h1,h2⟩;exact ⟨j,by omega,by rw [h2,Int.one_mul,Int.natCast_pow];rfl⟩
 ·rintro ⟨j,h1,h2⟩;exact ⟨j,by omega,by rw [h2,Int.one_mul,Int.natCast_pow];rfl⟩
theorem powB_bd {n:Int} (h:powB n=true):1≤n∧n≤16777216:=powB_pos (by rw [←powB_eq];exact h)
theorem ebound_sp (n:Int):WP (extent_bound n) (·=boundB n):=by
 unfold extent_bound boundB
 (repeat' (first| (refine WP.chk (by (first| omega| (simp only [wpN] at*;omega))) fun _=>?_)| ((refine WP.bif (fun wh=>?_) (fun wh=>?_))<;>(try simp only [wpH] at wh)<;>(try (exfalso;omega)))))
 ·exact WP.ret (by simp [wh])
 ·exact WP.ret (by simp;omega)
theorem rbound_sp (n:Int):WP (r03_Bound n) (·=boundB n):=by
 unfold r03_Bound boundB
 (repeat' (first| (refine WP.chk (by (first| omega| (simp only [wpN] at*;omega))) fun _=>?_)| ((refine WP.bif (fun wh=>?_) (fun wh=>?_))<;>(try simp only [wpH] at wh)<;>(try (exfalso;omega)))))
 ·exact WP.ret (by simp [wh])
 ·exact WP.ret (by simp;omega)
theorem epower_sp (n:Int):WP (extent_Power n) (·=powB n):=by
 unfold extent_Power
 rw [powB_eq]
 unfold Go.Proofs.YtgbkhjllbgmdcaaGreat.powB
 (repeat' (first| (refine WP.chk (by (first| omega| (simp only [wpN] at*;omega))) fun _=>?_)| ((refine WP.bif (fun wh=>?_) (fun wh=>?_))<;>(try simp only [wpH] at wh)<;>(try (exfalso;omega)))))
 ·refine WP.ret ?_
  have h1:1≤n:=by omega
  have h2:n≤16777216:=by omega
  simp only [h1,h2,decide_true,Bool.true_and]
  rfl
 ·exact WP.ret (by simp;omega)
 ·exact WP.ret (by simp;omega)
theorem eup_sp (n a:Int) (h0:0≤n) (h1:n≤2147483647) (ha:powB a=true):WP (extent_up n a) (·=upZ n a):=by
 have hb:=powB_bd ha
 unfold extent_up
 (repeat' (first| (refine WP.chk (by (first| omega| (simp only [wpN] at*;omega))) fun _=>?_)| ((refine WP.bif (fun wh=>?_) (fun wh=>?_))<;>(try simp only [wpH] at wh)<;>(try (exfalso;omega)))))
 exact WP.ret (upZ_eq h0 (by omega) (by rw [←powB_eq];exact ha))
theorem elimited_sp (n:Int):WP (extent_limited n) (·=if 2147483647<n then (0,9) else (n,0)):=by
 unfold extent_limited
 (repeat' (first| (refine WP.chk (by (first| omega| (simp only [wpN] at*;omega))) fun _=>?_)| ((refine WP.bif (fun wh=>?_) (fun wh=>?_))<;>(try simp only [wpH] at wh)<;>(try (exfalso;omega)))))
 ·exact WP.ret (by rw [if_pos wh])
 ·exact WP.ret (by rw [if_neg (by omega)])
def upQ (n a:Int):Int × Int:=if boundB n&&powB a then (if 2147483647<upZ n a then (0,9) else (upZ n a,0)) else (0,4)
def addQ (x y:Int):Int × Int:=if boundB x&&boundB y then (if 2147483647<x+y then (0,9) else (x+y,0)) else (0,4)
theorem eUp_sp (n a:Int):WP (extent_Up n a) (·=upQ n a):=by
 unfold extent_Up upQ
 refine WP.call (ebound_sp n) ?_
 rintro _ rfl
 refine WP.bif (fun wh=>?_) (fun wh=>?_)<;>(try simp only [wpH] at wh)
 ·exact WP.ret (by rw [wh];rfl)
 have hb:=wh
 refine WP.call (epower_sp a) ?_
 rintro _ rfl
 refine WP.bif (fun wh=>?_) (fun wh=>?_)<;>(try simp only [wpH] at wh)
 ·exact WP.ret (by rw [hb,wh];rfl)
 have hb2:=(boundB_iff n).1 hb
 refine WP.call (eup_sp n a hb2.1 hb2.2 wh) ?_
 rintro _ rfl
 refine WP.call (elimited_sp _) ?_
 rintro _ rfl
 exact WP.ret (by rw [hb,wh];rfl)
theorem eAdd_sp (x y:Int):WP (extent_Add x y) (·=addQ x y):=by
 unfold extent_Add addQ
 refine WP.call (ebound_sp x) ?_
 rintro _ rfl
 refine WP.bif (fun wh=>?_) (fun wh=>?_)<;>(try simp only [wpH] at wh)
 ·exact WP.ret (by rw [wh];rfl)
 have hb:=wh
 refine WP.call (ebound_sp y) ?_
 rintro _ rfl
 refine WP.bif (fun wh=>?_) (fun wh=>?_)<;>(try simp only [wpH] at wh)
 ·exact WP.ret (by rw [hb,wh];rfl)
 have h1:=(boundB_iff x).1 hb
 have h2:=(boundB_iff y).1 wh
 refine WP.chk ⟨by omega,by omega⟩ fun _=>?_
 refine WP.call (elimited_sp _) ?_
 rintro _ rfl
 exact WP.ret (by rw [hb,wh];rfl)
theorem rUp_sp (n a:Int):WP (r03_Up n a) (·=upQ n a):=by
 unfold r03_Up upQ
 refine WP.call (rbound_sp n) ?_
 rintro _ rfl
 refine WP.bif (fun wh=>?_) (fun wh=>?_)<;>(try simp only [wpH] at wh)
 ·exact WP.ret (by rw [wh];rfl)
 have hb:=wh
 refine WP.call (power_sp a) ?_
 rintro _ rfl
 refine WP.bif (fun wh=>?_) (fun wh=>?_)<;>(try simp only [wpH] at wh)
 ·exact WP.ret (by rw [hb,wh];rfl)
 have hp:=wh
 have hb2:=(boundB_iff n).1 hb
 have hp2:=powB_bd wh
 have hf:=upZ_mod_form (n:=n) hp2.1
 have hm0:=Int.emod_nonneg n (show a≠0 by omega)
 have hm1:=Int.emod_lt_of_pos n (show 0<a by omega)
 rw [hb,hp]
 simp only [Bool.and_self,if_true]
 refine WP.join (fun m=>m=upZ n a) ?_ ?_
 ·rintro _ rfl
  refine WP.bif (fun wh=>?_) (fun wh=>?_)<;>(try simp only [wpH] at wh)
  ·exact WP.ret (by rw [if_pos wh])
  ·exact WP.ret (by rw [if_neg (Int.not_lt.2 wh)])
 ·intro k hk
  refine WP.chk ⟨by omega,by omega⟩ fun _=>?_
  refine WP.bif (fun wh=>?_) (fun wh=>?_)<;>(try simp only [wpH] at wh)
  ·rw [if_neg wh] at hf
   refine WP.chk ⟨by omega,by omega⟩ fun _=>?_
   refine WP.chk ⟨by omega,by omega⟩ fun _=>?_
   refine WP.chk ⟨by omega,by omega⟩ fun _=>?_
   exact hk _ hf.symm
  ·rw [if_pos wh] at hf
   exact hk _ hf.symm
theorem good_sp (n:Int):WP (r04_good n) (·=in512 n):=by
 unfold r04_good in512
 (repeat' (first| (refine WP.chk (by (first| omega| (simp only [wpN] at*;omega))) fun _=>?_)| ((refine WP.bif (fun wh=>?_) (fun wh=>?_))<;>(try simp only [wpH] at wh)<;>(try (exfalso;omega)))))
 all_goals (refine WP.ret ?_;simp;omega)
theorem has_sp (s:List Int) (n:Int) (hl:s.length≤1000000000):WP (r04_Has s n) (·=decide (n∈s)):=by
 unfold r04_Has
 refine WP.loop (fun i=>0≤i∧i≤s.length∧n∉s.take i.toNat) (fun i=>s.length- i.toNat) ⟨by omega,by omega,by simp⟩ ?_
 rintro again i ⟨h1,h2,h3⟩ ih
 (repeat' (first| (refine WP.chk (by (first| omega| (simp only [wpN] at*;omega))) fun _=>?_)| ((refine WP.bif (fun wh=>?_) (fun wh=>?_))<;>(try simp only [wpH] at wh)<;>(try (exfalso;omega)))))
 ·refine WP.ret ?_
  rw [eq_comm,decide_eq_true_eq,←wh]
  exact atD_mem ⟨h1,by assumption⟩
 ·refine ih _ ⟨by omega,by omega,?_⟩ (by omega)
  rw [take_atD ⟨h1,by assumption⟩,List.mem_append,List.mem_singleton]
  rintro (h| h)
  ·exact h3 h
  ·exact wh h.symm
 ·refine WP.ret ?_
  rw [take_all (by omega)] at h3
  simp [h3]
theorem remove_sp (s:List Int) (n:Int) (hl:s.length≤1000000000):WP (r04_Remove s n) (·=s.filter fun x=>x !=n):=by
 unfold r04_Remove
 refine WP.loop (fun j=>0≤j.1∧j.1≤s.length∧j.2=(s.take j.1.toNat).filter fun x=>x !=n) (fun j=>s.length- j.1.toNat) ⟨by simp,by simp,by simp⟩ ?_
 rintro again ⟨i,out⟩ ⟨h1,h2,h3⟩ ih
 dsimp only at h1 h2 h3 ih ⊢
 have hlo:out.length≤s.length:=by rw [h3];exact Nat.le_trans (List.length_filter_le _ _) (by rw [List.length_take];omega)
 (repeat' (first| (refine WP.chk (by (first| omega| (simp only [wpN] at*;omega))) fun _=>?_)| ((refine WP.bif (fun wh=>?_) (fun wh=>?_))<;>(try simp only [wpH] at wh)<;>(try (exfalso;omega)))))
 ·refine ih _ ⟨by dsimp only;omega,by dsimp only;omega,?_⟩ (by dsimp only;omega)
  dsimp only
  rw [take_atD ⟨h1,by assumption⟩,List.filter_append,←h3]
  simp [wh]
 ·refine ih _ ⟨by dsimp only;omega,by dsimp only;omega,?_⟩ (by dsimp only;omega)
  dsimp only
  rw [take_atD ⟨h1,by assumption⟩,List.filter_append,←h3]
  simp [wh]
 ·exact WP.ret (by rw [h3,take_all (by omega)])
theorem minus_sp (a b:List Int) (hl:a.length≤1000000000) (hb:b.length≤1000000000):WP (r04_Minus a b) (·=a.filter fun x=>!decide (x∈b)):=by
 unfold r04_Minus
 refine WP.loop (fun j=>0≤j.1∧j.1≤a.length∧j.2=(a.take j.1.toNat).filter fun x=>!decide (x∈b)) (fun j=>a.length- j.1.toNat) ⟨by simp,by simp,by simp⟩ ?_
 rintro again ⟨i,out⟩ ⟨h1,h2,h3⟩ ih
 dsimp only at h1 h2 h3 ih ⊢
 have hlo:out.length≤a.length:=by rw [h3];exact Nat.le_trans (List.length_filter_le _ _) (by rw [List.length_take];omega)
 (repeat' (first| (refine WP.chk (by (first| omega| (simp only [wpN] at*;omega))) fun _=>?_)| ((refine WP.bif (fun wh=>?_) (fun wh=>?_))<;>(try simp only [wpH] at wh)<;>(try (exfalso;omega)))))
 ·refine WP.call (has_sp _ _ hb) ?_
  rintro _ rfl
  (repeat' (first| (refine WP.chk (by (first| omega| (simp only [wpN] at*;omega))) fun _=>?_)| ((refine WP.bif (fun wh=>?_) (fun wh=>?_))<;>(try simp only [wpH] at wh)<;>(try (exfalso;omega)))))
  ·refine ih _ ⟨by dsimp only;omega,by dsimp only;omega,?_⟩ (by dsimp only;omega)
   dsimp only
   rw [take_atD ⟨h1,by assumption⟩,List.filter_append,←h3]
   simp [wh]
  ·refine ih _ ⟨by dsimp only;omega,by dsimp only;omega,?_⟩ (by dsimp only;omega)
   dsimp only
   rw [take_atD ⟨h1,by assumption⟩,List.filter_append,←h3]
   simp [wh]
 ·exact WP.ret (by rw [h3,take_all (by omega)])
theorem same_sp (a b:List Int) (hl:a.length≤1000000000):WP (r04_Same a b) (·=decide (a=b)):=by
 unfold r04_Same
 refine WP.bif (fun wh=>?_) (fun wh=>?_)<;>(try simp only [wpH] at wh)
 ·refine WP.ret ?_
  rw [eq_comm,decide_eq_false_iff_not]
  intro h;subst h;exact wh rfl
 have hlen:a.length=b.length:=by omega
 refine WP.loop (fun i=>0≤i∧i≤a.length∧a.take i.toNat=b.take i.toNat) (fun i=>a.length- i.toNat) ⟨by omega,by omega,by simp⟩ ?_
 rintro again i ⟨h1,h2,h3⟩ ih
 (repeat' (first| (refine WP.chk (by (first| omega| (simp only [wpN] at*;omega))) fun _=>?_)| ((refine WP.bif (fun wh=>?_) (fun wh=>?_))<;>(try simp only [wpH] at wh)<;>(try (exfalso;omega)))))
 ·refine WP.ret ?_
  rw [eq_comm,decide_eq_false_iff_not]
  intro h;subst h;exact wh rfl
 ·refine ih _ ⟨by omega,by omega,?_⟩ (by omega)
  rw [take_atD ⟨h1,by assumption⟩,take_atD ⟨h1,by omega⟩,h3,wh]
 ·refine WP.ret ?_
  rw [take_all (by omega),take_all (by omega)] at h3
  simp [h3]
theorem sameAll_sp (a b:List (List Int)) (hl:a.length≤1000000000) (ha:∀x∈a,x.length≤1000000000):WP (r04_SameAll a b) (·=decide (a=b)):=by
 unfold r04_SameAll
 refine WP.bif (fun wh=>?_) (fun wh=>?_)<;>(try simp only [wpH] at wh)
 ·refine WP.ret ?_
  rw [eq_comm,decide_eq_false_iff_not]
  intro h;subst h;exact wh rfl
 have hlen:a.length=b.length:=by omega
 refine WP.loop (fun i=>0≤i∧i≤a.length∧a.take i.toNat=b.take i.toNat) (fun i=>a.length- i.toNat) ⟨by omega,by omega,by simp⟩ ?_
 rintro again i ⟨h1,h2,h3⟩ ih
 (repeat' (first| (refine WP.chk (by (first| omega| (simp only [wpN] at*;omega))) fun _=>?_)| ((refine WP.bif (fun wh=>?_) (fun wh=>?_))<;>(try simp only [wpH] at wh)<;>(try (exfalso;omega)))))
 ·refine WP.call (same_sp _ _ (ha _ (atD_mem ⟨h1,by assumption⟩))) ?_
  rintro _ rfl
  (repeat' (first| (refine WP.chk (by (first| omega| (simp only [wpN] at*;omega))) fun _=>?_)| ((refine WP.bif (fun wh=>?_) (fun wh=>?_))<;>(try simp only [wpH] at wh)<;>(try (exfalso;omega)))))
  ·refine WP.ret ?_
   rw [eq_comm,decide_eq_false_iff_not]
   intro h;subst h;exact wh rfl
  ·refine ih _ ⟨by omega,by omega,?_⟩ (by omega)
   rw [take_atD ⟨h1,by assumption⟩,take_atD ⟨h1,by omega⟩,h3,wh]
 ·refine WP.ret ?_
  rw [take_all (by omega),take_all (by omega)] at h3
  simp [h3]
def insS (n:Int):List Int→List Int
 | []=>[n]
 | x::r=>if n≤x then (if n<x then n::x::r else x::r) else x::insS n r
def addS (s:List Int) (n:Int):List Int:=if in512 n then insS n s else s
theorem insS_length (n:Int):∀s:List Int,(insS n s).length≤s.length+1
 | []=>by simp [insS]
 | x::r=>by
   unfold insS
   split
   ·split<;>simp
   ·have:=insS_length n r;simp;omega
theorem addS_length (s:List Int) (n:Int):(addS s n).length≤s.length+1:=by
 unfold addS
 split
 ·exact insS_length n s
 ·omega
theorem drop_atD {α:Type} [Inhabited α] {l:List α} {k:Int} (h:0≤k∧k<(l.length:Int)):l.drop k.toNat=atD l k::l.drop (k+1).toNat:=by
 have h1:k.toNat<l.length:=by omega
 rw [show (k+1).toNat=k.toNat+1 by omega,List.drop_eq_getElem_cons h1]
 have:=atD_nat h1
 rw [Int.toNat_of_nonneg h.1] at this
 rw [this]
theorem add_sp (s:List Int) (n:Int) (hl:s.length≤1000000000):WP (r04_Add s n) (·=addS s n):=by
 unfold r04_Add
 refine WP.call (good_sp n) ?_
 rintro _ rfl
 refine WP.loop (fun j=>0≤j.2.1∧j.2.1≤s.length∧(j.2.2.length:Int)≤j.2.1+(if j.1 then 1 else 0)∧j.2.2++(if j.1 then s.drop j.2.1.toNat else insS n (s.drop j.2.1.toNat))=addS s n) (fun j=>s.length- j.2.1.toNat) ⟨by simp,by simp,by dsimp only;split<;>simp,?_⟩ ?_
 ·unfold addS
  cases in512 n<;>simp
 rintro again ⟨d,i,out⟩ ⟨h1,h2,h3,h4⟩ ih
 dsimp only at h1 h2 h3 h4 ih ⊢
 refine WP.bif (fun wh=>?_) (fun wh=>?_)<;>(try simp only [wpH] at wh)
 ·rw [drop_atD ⟨h1,wh⟩] at h4
  refine WP.join (fun j=>(j.2.length:Int)≤i+(if j.1 then 1 else 0)∧j.2++(atD s i::(if j.1 then s.drop (i+1).toNat else insS n (s.drop (i+1).toNat)))=addS s n) ?_ ?_
  ·rintro ⟨d2,out2⟩ ⟨a1,a2⟩
   dsimp only at a1 a2 ⊢
   (repeat' (first| (refine WP.chk (by (first| omega| (simp only [wpN] at*;omega))) fun _=>?_)| ((refine WP.bif (fun wh=>?_) (fun wh=>?_))<;>(try simp only [wpH] at wh)<;>(try (exfalso;omega)))))
   refine ih _ ⟨by dsimp only;omega,by dsimp only;omega,by simp;omega,?_⟩ (by dsimp only;omega)
   dsimp only
   rw [List.append_assoc]
   exact a2
  ·intro k hk
   cases d with
   | true=>
     refine WP.bif (fun wh=>by cases wh) (fun wh=>?_)
     exact hk _ ⟨by dsimp only;omega,h4⟩
   | false=>
     refine WP.bif (fun wh=>?_) (fun wh=>by cases wh)
     simp only [Bool.false_eq_true,if_false] at h3 h4
     unfold insS at h4
     (repeat' (first| (refine WP.chk (by (first| omega| (simp only [wpN] at*;omega))) fun _=>?_)| ((refine WP.bif (fun wh=>?_) (fun wh=>?_))<;>(try simp only [wpH] at wh)<;>(try (exfalso;omega)))))
     ·rw [if_pos (by assumption),if_pos (by assumption)] at h4
      refine hk _ ⟨by simp only [List.length_append,List.length_singleton,if_true];omega,?_⟩
      dsimp only
      rw [List.append_assoc]
      exact h4
     ·rw [if_pos (by assumption),if_neg (by omega)] at h4
      exact hk _ ⟨by simp only [if_true,if_false,Bool.false_eq_true];omega,h4⟩
     ·rw [if_neg (by omega)] at h4
      exact hk _ ⟨by simp only [if_true,if_false,Bool.false_eq_true];omega,h4⟩
 ·have e:s.drop i.toNat=[]:=List.drop_eq_nil_of_le (by omega)
  rw [e] at h4
  cases d with
  | true=>
    refine WP.bif (fun wh=>by cases wh) (fun wh=>?_)
    exact WP.ret (by simpa using h4)
  | false=>
    refine WP.bif (fun wh=>?_) (fun wh=>by cases wh)
    (repeat' (first| (refine WP.chk (by (first| omega| (simp only [wpN] at*;omega))) fun _=>?_)| ((refine WP.bif (fun wh=>?_) (fun wh=>?_))<;>(try simp only [wpH] at wh)<;>(try (exfalso;omega)))))
    exact WP.ret (by simpa [insS] using h4)
def unionS (a b:List Int):List Int:=b.foldl addS a
theorem unionS_length (a b:List Int):(unionS a b).length≤a.length+b.length:=by
 unfold unionS
 induction b generalizing a with
 | nil=>simp
 | cons x r ih=>
   rw [List.foldl_cons,List.length_cons]
   have h1:=ih (addS a x)
   have h2:=addS_length a x
   omega
theorem union_sp (a b:List Int) (hl:a.length+b.length≤1000000000):WP (r04_Union a b) (·=unionS a b):=by
 unfold r04_Union
 (repeat' (first| (refine WP.chk (by (first| omega| (simp only [wpN] at*;omega))) fun _=>?_)| ((refine WP.bif (fun wh=>?_) (fun wh=>?_))<;>(try simp only [wpH] at wh)<;>(try (exfalso;omega)))))
 refine WP.loop (fun j=>0≤j.2∧j.2≤b.length∧j.1=unionS a (b.take j.2.toNat)) (fun j=>b.length- j.2.toNat) ⟨by simp,by simp,by simp [unionS]⟩ ?_
 rintro again ⟨out,i⟩ ⟨h1,h2,h3⟩ ih
 dsimp only at h1 h2 h3 ih ⊢
 have hlo:out.length≤a.length+b.length:=by
  have:=unionS_length a (b.take i.toNat)
  rw [List.length_take] at this
  rw [h3];omega
 (repeat' (first| (refine WP.chk (by (first| omega| (simp only [wpN] at*;omega))) fun _=>?_)| ((refine WP.bif (fun wh=>?_) (fun wh=>?_))<;>(try simp only [wpH] at wh)<;>(try (exfalso;omega)))))
 ·refine WP.call (add_sp _ _ (by omega)) ?_
  rintro _ rfl
  (repeat' (first| (refine WP.chk (by (first| omega| (simp only [wpN] at*;omega))) fun _=>?_)| ((refine WP.bif (fun wh=>?_) (fun wh=>?_))<;>(try simp only [wpH] at wh)<;>(try (exfalso;omega)))))
  refine ih _ ⟨by dsimp only;omega,by dsimp only;omega,?_⟩ (by dsimp only;omega)
  dsimp only
  rw [take_atD ⟨h1,by assumption⟩,unionS,List.foldl_append,h3]
  rfl
 ·exact WP.ret (by rw [h3,take_all (by omega)])
theorem check4_sp (s:List Int) (hl:s.length≤9223372036854775807):WP (r04_Check s) (·=ascS s):=by
 unfold r04_Check
 have hat:∀i:Int,0≤i→i<s.length→s.getD i.toNat 0=atD s i:=fun i h1 h2=>by
  unfold atD;rfl
 have hbad:∀i:Int,0≤i→i<s.length→(in512 (atD s i)=false∨(0<i∧atD s i≤atD s (i- 1)))→ascS s=false:=fun i h1 h2 h=>by
  unfold ascS
  rw [List.all_eq_false]
  refine ⟨i.toNat,List.mem_range.2 (by omega),?_⟩
  rw [hat i h1 h2]
  rcases h with h| ⟨h3,h4⟩
  ·simp [h]
  ·have e1:¬i.toNat=0:=by omega
   have e2:s.getD (i.toNat- 1) 0=atD s (i- 1):=by rw [←hat (i- 1) (by omega) (by omega)];congr 1;omega
   rw [e2]
   simp [e1]
   intro _;omega
 refine WP.loop (fun i=>0≤i∧i≤s.length∧∀k:Int,0≤k→k<i→in512 (atD s k)=true∧(0<k→atD s (k- 1)<atD s k)) (fun i=>s.length- i.toNat) ⟨by omega,by omega,by intro k h1 h2;omega⟩ ?_
 rintro again i ⟨h1,h2,h3⟩ ih
 refine WP.bif (fun wh=>?_) (fun wh=>?_)<;>(try simp only [wpH] at wh)
 ·have hlt:=wh
  (repeat' (first| (refine WP.chk (by (first| omega| (simp only [wpN] at*;omega))) fun _=>?_)| ((refine WP.bif (fun wh=>?_) (fun wh=>?_))<;>(try simp only [wpH] at wh)<;>(try (exfalso;omega)))))
  refine WP.call (good_sp _) ?_
  rintro _ rfl
  refine WP.bif (fun wh=>?_) (fun wh=>?_)<;>(try simp only [wpH] at wh)
  ·exact WP.ret (hbad i h1 hlt (.inl wh)).symm
  have hg:=wh
  have step:(0<i→atD s (i- 1)<atD s i)→∀k:Int,0≤k→k<i+1→in512 (atD s k)=true∧(0<k→atD s (k- 1)<atD s k):=fun h k q1 q2=>by
   by_cases hk:k=i
   ·subst hk;exact ⟨hg,h⟩
   ·exact h3 k q1 (by omega)
  (repeat' (first| (refine WP.chk (by (first| omega| (simp only [wpN] at*;omega))) fun _=>?_)| ((refine WP.bif (fun wh=>?_) (fun wh=>?_))<;>(try simp only [wpH] at wh)<;>(try (exfalso;omega)))))
  ·exact WP.ret (hbad i h1 hlt (.inr ⟨by omega,by omega⟩)).symm
  ·exact ih _ ⟨by omega,by omega,step fun _=>by omega⟩ (by omega)
  ·exact ih _ ⟨by omega,by omega,step fun _=>by omega⟩ (by omega)
 ·refine WP.ret ?_
  rw [eq_comm]
  unfold ascS
  rw [List.all_eq_true]
  intro j hj
  have hj':(j:Int)<s.length:=by have:=List.mem_range.1 hj;omega
  have h4:=h3 j (by omega) (by omega)
  have e1:s.getD j 0=atD s (j:Int):=by rw [←hat j (by omega) hj'];rfl
  rw [e1,h4.1]
  by_cases hj0:j=0
  ·simp [hj0]
  ·have e2:s.getD (j- 1) 0=atD s ((j:Int)- 1):=by rw [←hat _ (by omega) (by omega)];congr 1;omega
   rw [e2]
   simp [hj0]
   exact h4.2 (by omega)
structure IsS (s:List Int):Prop where
 asc:s.Pairwise (·<·)
 rng:∀x∈s,0≤x∧x<512
theorem IsS.nil:IsS []:=⟨List.Pairwise.nil,by simp⟩
theorem mem_insS {n x:Int}:∀{s:List Int},x∈insS n s↔x=n∨x∈s
 | []=>by simp [insS]
 | y::r=>by
   unfold insS
   split
   ·split
    ·simp
    ·have:n=y:=by omega
     subst this
     simp
   ·simp [mem_insS (s:=r)]
    constructor
    ·rintro (h| h| h)<;>simp [h]
    ·rintro (h| h| h)<;>simp [h]
theorem insS_asc {n:Int}:∀{s:List Int},s.Pairwise (·<·)→(insS n s).Pairwise (·<·)
 | [],_=>by simp [insS]
 | y::r,h=>by
   have h':=List.pairwise_cons.1 h
   unfold insS
   split
   ·split
    ·refine List.pairwise_cons.2 ⟨fun z hz=>?_,h⟩
     rcases List.mem_cons.1 hz with rfl| hz
     ·assumption
     ·have:=h'.1 z hz;omega
    ·exact h
   ·refine List.pairwise_cons.2 ⟨fun z hz=>?_,insS_asc h'.2⟩
    rcases mem_insS.1 hz with rfl| hz
    ·omega
    ·exact h'.1 z hz
theorem in512_iff {n:Int}:in512 n=true↔0≤n∧n<512:=by simp [in512]
theorem mem_addS {s:List Int} {n x:Int}:x∈addS s n↔x∈s∨(x=n∧0≤n∧n<512):=by
 unfold addS
 split
 ·rename_i h
  rw [mem_insS]
  have:=in512_iff.1 h
  constructor
  ·rintro (rfl| h)
   ·exact .inr ⟨rfl,this⟩
   ·exact .inl h
  ·rintro (h| ⟨rfl,_⟩)
   ·exact .inr h
   ·exact .inl rfl
 ·rename_i h
  rw [in512_iff] at h
  constructor
  ·exact fun h=> .inl h
  ·rintro (q| ⟨_,q⟩)
   ·exact q
   ·exact (h q).elim
theorem IsS.add {s:List Int} (h:IsS s) (n:Int):IsS (addS s n):=by
 refine ⟨?_,fun x hx=>?_⟩
 ·unfold addS
  split
  ·exact insS_asc h.asc
  ·exact h.asc
 ·rcases mem_addS.1 hx with hx| ⟨rfl,hx⟩
  ·exact h.rng x hx
  ·exact hx
theorem mem_unionS {a b:List Int} {x:Int}:x∈unionS a b↔x∈a∨(x∈b∧0≤x∧x<512):=by
 unfold unionS
 induction b generalizing a with
 | nil=>simp
 | cons y r ih=>
   rw [List.foldl_cons,ih,mem_addS,List.mem_cons]
   constructor
   ·rintro ((h| ⟨rfl,h⟩)| ⟨h1,h2⟩)
    ·exact .inl h
    ·exact .inr ⟨.inl rfl,h⟩
    ·exact .inr ⟨.inr h1,h2⟩
   ·rintro (h| ⟨rfl| h1,h2⟩)
    ·exact .inl (.inl h)
    ·exact .inl (.inr ⟨rfl,h2⟩)
    ·exact .inr ⟨h1,h2⟩
theorem IsS.union {a:List Int} (h:IsS a) (b:List Int):IsS (unionS a b):=by
 unfold unionS
 induction b generalizing a with
 | nil=>exact h
 | cons y r ih=>exact ih (h.add y)
theorem IsS.filter {a:List Int} (h:IsS a) (p:Int→Bool):IsS (a.filter p):=⟨h.asc.filter p,fun x hx=>h.rng x (List.mem_filter.1 hx).1⟩
theorem asc_length {s:List Int} {lo:Int} {n:Nat} (h:s.Pairwise (·<·)) (hr:∀x∈s,lo≤x∧x<lo+n):s.length≤n:=by
 induction s generalizing lo n with
 | nil=>simp
 | cons y r ih=>
   have h':=List.pairwise_cons.1 h
   have hy:=hr y List.mem_cons_self
   have:=ih (lo:=y+1) (n:=(lo+n- (y+1)).toNat) h'.2 fun x hx=>by
    have h1:=h'.1 x hx
    have h2:=hr x (List.mem_cons_of_mem _ hx)
    omega
   simp;omega
theorem IsS.length {s:List Int} (h:IsS s):s.length≤512:=asc_length (lo:=0) (n:=512) h.asc fun x hx=>by have:=h.rng x hx;omega
theorem asc_ext:∀{a b:List Int},a.Pairwise (·<·)→b.Pairwise (·<·)→(∀x,x∈a↔x∈b)→a=b
 | [],[],_,_,_=>rfl
 | [],y::r,_,_,h=>by have:=(h y).2 List.mem_cons_self;cases this
 | y::r,[],_,_,h=>by have:=(h y).1 List.mem_cons_self;cases this
 | x::q,y::r,ha,hb,h=>by
   have ha':=List.pairwise_cons.1 ha
   have hb':=List.pairwise_cons.1 hb
   have e:x=y:=by
    have h1:=(h x).1 List.mem_cons_self
    have h2:=(h y).2 List.mem_cons_self
    rcases List.mem_cons.1 h1 with h1| h1
    ·exact h1
    ·rcases List.mem_cons.1 h2 with h2| h2
     ·exact h2.symm
     ·have:=ha'.1 y h2;have:=hb'.1 x h1;omega
   subst e
   congr 1
   refine asc_ext ha'.2 hb'.2 fun z=>⟨fun hz=>?_,fun hz=>?_⟩
   ·rcases List.mem_cons.1 ((h z).1 (List.mem_cons_of_mem _ hz)) with e| hz'
    ·have:=ha'.1 z hz;omega
    ·exact hz'
   ·rcases List.mem_cons.1 ((h z).2 (List.mem_cons_of_mem _ hz)) with e| hz'
    ·have:=hb'.1 z hz;omega
    ·exact hz'
theorem IsS.ext {a b:List Int} (ha:IsS a) (hb:IsS b) (h:∀x,x∈a↔x∈b):a=b:=asc_ext ha.asc hb.asc h
theorem ascS_iff {s:List Int}:ascS s=true↔IsS s:=by
 have hat:∀j,j<s.length→s.getD j 0=s.getD j 0:=fun _ _=>rfl
 constructor
 ·intro h
  have h1:∀j,j<s.length→in512 (s.getD j 0)=true∧(j=0∨s.getD (j- 1) 0<s.getD j 0):=fun j hj=>by
   have:=List.all_eq_true.1 h j (List.mem_range.2 hj)
   simpa using this
  refine ⟨?_,fun x hx=>?_⟩
  ·rw [List.pairwise_iff_getElem]
   have key:∀(d i:Nat) (hi:i+d+1<s.length),s.getD i 0<s.getD (i+d+1) 0:=by
    intro d
    induction d with
    | zero=>
      intro i hi
      have:=(h1 (i+0+1) hi).2
      rcases this with h| h
      ·omega
      ·simpa using h
    | succ d ih=>
      intro i hi
      have q1:=ih i (by omega)
      have q2:=(h1 (i+(d+1)+1) hi).2
      rcases q2 with h| h
      ·omega
      ·have e:i+(d+1)+1- 1=i+d+1:=by omega
       rw [e] at h
       omega
   intro i j hi hj hij
   have:=key (j- i- 1) i (by omega)
   have e:i+(j- i- 1)+1=j:=by omega
   rw [e] at this
   simpa [List.getD,hi,hj] using this
  ·obtain ⟨j,hj,rfl⟩:=List.getElem_of_mem hx
   have:=(h1 j hj).1
   rw [in512_iff] at this
   simpa [List.getD,hj] using this
 ·intro h
  unfold ascS
  rw [List.all_eq_true]
  intro j hj
  have hj':=List.mem_range.1 hj
  have h1:=h.rng s[j] (List.getElem_mem hj')
  have e:s.getD j 0=s[j]:=by simp [List.getD,hj']
  rw [e,(in512_iff (n:=s[j])).2 h1]
  by_cases hj0:j=0
  ·simp [hj0]
  ·have h2:j- 1<s.length:=by omega
   have e2:s.getD (j- 1) 0=s[j- 1]:=by simp [List.getD,h2]
   rw [e2]
   have:=List.pairwise_iff_getElem.1 h.asc (j- 1) j h2 hj' (by omega)
   simp [hj0,this]
def remB (x:AInstr):Bool:=decide (x.Op=16)|| decide (x.Op=17)
theorem removable_sp (x:AInstr):WP (r15_Removable x) (·=remB x):=by
 unfold r15_Removable remB
 (repeat' (first| (refine WP.chk (by (first| omega| (simp only [wpN] at*;omega))) fun _=>?_)| ((refine WP.bif (fun wh=>?_) (fun wh=>?_))<;>(try simp only [wpH] at wh)<;>(try (exfalso;omega)))))
 all_goals (refine WP.ret ?_;simp [wh])
theorem defines_sp (x:AInstr):WP (r15_Defines x) (·=if remB x then (x.A,true) else (0,false)):=by
 unfold r15_Defines
 refine WP.call (removable_sp x) ?_
 rintro _ rfl
 (repeat' (first| (refine WP.chk (by (first| omega| (simp only [wpN] at*;omega))) fun _=>?_)| ((refine WP.bif (fun wh=>?_) (fun wh=>?_))<;>(try simp only [wpH] at wh)<;>(try (exfalso;omega)))))
 all_goals (refine WP.ret ?_;simp [wh])
def useS (x:AInstr):List Int:=if x.Op=15∨x.Op=17 then [x.B] else []
theorem uses_sp (x:AInstr):WP (r15_Uses x) (·=useS x):=by
 unfold r15_Uses useS
 (repeat' (first| (refine WP.chk (by (first| omega| (simp only [wpN] at*;omega))) fun _=>?_)| ((refine WP.bif (fun wh=>?_) (fun wh=>?_))<;>(try simp only [wpH] at wh)<;>(try (exfalso;omega)))))
 all_goals (refine WP.ret ?_;simp [wh])
 all_goals (intro h;omega)
def outS (x:AInstr) (s:List Int):List Int:=if remB x then s.filter (fun y=>y !=x.A) else s
def inSet (x:AInstr) (s:List Int):List Int:=unionS (outS x s) (useS x)
theorem in_sp (x:AInstr) (s:List Int) (hl:s.length≤1000000):WP (r15_In x s) (·=inSet x s):=by
 have hu:(useS x).length≤1:=by unfold useS;split<;>simp
 have ho:(outS x s).length≤s.length:=by
  unfold outS
  split
  ·exact List.length_filter_le _ _
  ·exact Nat.le_refl _
 unfold r15_In
 refine WP.join (fun o=>o=outS x s) ?_ ?_
 ·rintro _ rfl
  refine WP.call (uses_sp x) ?_
  rintro _ rfl
  refine WP.call (union_sp _ _ (by omega)) ?_
  rintro _ rfl
  exact WP.ret rfl
 ·intro k hk
  refine WP.call (defines_sp x) ?_
  rintro _ rfl
  unfold outS at hk
  split
  ·rename_i h
   rw [if_pos h] at hk
   refine WP.bif (fun _=>?_) (fun wh=>by cases wh)
   refine WP.call (remove_sp _ _ (by omega)) ?_
   rintro _ rfl
   exact hk _ rfl
  ·rename_i h
   rw [if_neg h] at hk
   refine WP.bif (fun wh=>by cases wh) (fun _=>?_)
   exact hk _ rfl
theorem mem_outS {x:AInstr} {s:List Int} {y:Int}:y∈outS x s↔y∈s∧¬(remB x=true∧y=x.A):=by
 unfold outS
 split
 ·rename_i h
  rw [List.mem_filter]
  simp [h]
 ·rename_i h
  simp [h]
theorem IsS.out {s:List Int} (h:IsS s) (x:AInstr):IsS (outS x s):=by
 unfold outS
 split
 ·exact h.filter _
 ·exact h
theorem mem_inSet {x:AInstr} {s:List Int} {y:Int}:y∈inSet x s↔(y∈s∧¬(remB x=true∧y=x.A))∨(y∈useS x∧0≤y∧y<512):=by
 unfold inSet
 rw [mem_unionS,mem_outS]
theorem IsS.inSet {s:List Int} (h:IsS s) (x:AInstr):IsS (Go.Proofs.YtgbkhjllbgmdcaaGreat.Q.inSet x s):=(h.out x).union _
def nextS (f:AFunc) (k:Int):List Int:=
 if k<0∨(f.Code.length:Int)≤k then []
 else if (atD f.Code k).Op=20 then [(atD f.Code k).A]
 else if (atD f.Code k).Op=23∨(atD f.Code k).Op=24 then []
 else if (atD f.Code k).Op=21 then (if (atD f.Code k).B<k+1 then [(atD f.Code k).B,k+1] else if k+1<(atD f.Code k).B then [k+1,(atD f.Code k).B] else [k+1])
 else [k+1]
theorem next13_sp (f:AFunc) (k:Int) (hl:f.Code.length≤1000000):WP (r13_Next f k) (·=nextS f k):=by
 unfold r13_Next nextS
 refine WP.bif (fun wh=>?_) (fun wh=>?_)<;>(try simp only [wpH] at wh)
 ·exact WP.ret (by rw [if_pos (.inl wh)])
 refine WP.bif (fun wh=>?_) (fun wh=>?_)<;>(try simp only [wpH] at wh)
 ·exact WP.ret (by rw [if_pos (.inr wh)])
 rw [if_neg (by omega)]
 (first| (refine WP.chk (by (first| omega| (simp only [wpN] at*;omega))) fun _=>?_)| ((refine WP.bif (fun wh=>?_) (fun wh=>?_))<;>(try simp only [wpH] at wh)<;>(try (exfalso;omega))))
 refine WP.bif (fun wh=>?_) (fun wh=>?_)<;>(try simp only [wpH] at wh)
 ·(repeat' (first| (refine WP.chk (by (first| omega| (simp only [wpN] at*;omega))) fun _=>?_)| ((refine WP.bif (fun wh=>?_) (fun wh=>?_))<;>(try simp only [wpH] at wh)<;>(try (exfalso;omega)))))
  exact WP.ret (by rw [if_pos wh])
 rw [if_neg wh]
 refine WP.join (fun b=>b=(decide ((atD f.Code k).Op=23)|| decide ((atD f.Code k).Op=24))) ?_ ?_
 ·rintro _ rfl
  (repeat' (first| (refine WP.chk (by (first| omega| (simp only [wpN] at*;omega))) fun _=>?_)| ((refine WP.bif (fun wh=>?_) (fun wh=>?_))<;>(try simp only [wpH] at wh)<;>(try (exfalso;omega)))))
  all_goals (refine WP.ret ?_;(try simp only [Bool.or_eq_false_iff,decide_eq_false_iff_not] at*);repeat' split)
  all_goals (first| rfl| (exfalso;omega))
 ·intro k2 hk2
  (repeat' (first| (refine WP.chk (by (first| omega| (simp only [wpN] at*;omega))) fun _=>?_)| ((refine WP.bif (fun wh=>?_) (fun wh=>?_))<;>(try simp only [wpH] at wh)<;>(try (exfalso;omega)))))
  all_goals (refine hk2 _ ?_;simp [wh])
theorem WfI.use {n i par:Int} {sl:List ASlot} {J:Int→Prop} {x:AInstr} (h:WfI n i par sl J x) {y:Int} (hy:y∈useS x):inN y sl.length:=by
 unfold useS at hy
 cases h<;>simp at hy
 case load a s ha hs=>subst hy;exact hs
 case move s t hs ht he=>subst hy;exact ht
 all_goals (obtain ⟨h1,rfl⟩:=hy;exfalso;omega)
theorem WfI.dfn {n i par:Int} {sl:List ASlot} {J:Int→Prop} {x:AInstr} (h:WfI n i par sl J x) (hx:remB x=true):inN x.A sl.length:=by
 unfold remB at hx
 cases h<;>simp at hx
 case store s a hs ha=>exact hs
 case move s t hs ht he=>exact hs
 all_goals (exfalso;omega)
theorem WfF.at_ {n i par:Int} {f:AFunc} (h:WfF n i par f) {k:Int} (hk:inN k f.Code.length):WfI n i par f.Slots (fun t=>inN t f.Code.length) (atD f.Code k):=h.instr _ (atD_mem hk)
theorem WfF.next {n i par:Int} {f:AFunc} (h:WfF n i par f) {k j:Int} (hj:j∈nextS f k):inN k f.Code.length∧inN j f.Code.length:=by
 have hlen:=h.code.1
 unfold nextS at hj
 split at hj
 ·cases hj
 rename_i h1
 have hk:inN k f.Code.length:=⟨by omega,by omega⟩
 refine ⟨hk,?_⟩
 have hx:=h.at_ hk
 have hlast:=h.last
 split at hj
 ·rename_i h2
  rw [one_mem hj]
  generalize atD f.Code k=x at*
  cases hx<;>first| assumption| (simp at h2;done)| (exfalso;dsimp only at h2;omega)
 rename_i h2
 split at hj
 ·cases hj
 rename_i h3
 have hk1:inN (k+1) f.Code.length:=by
  refine ⟨by have:=hk.1;omega,?_⟩
  have:=hk.2
  by_cases he:k=(f.Code.length:Int)- 1
  ·rw [he] at h3;exact (h3 hlast).elim
  ·omega
 split at hj
 ·rename_i h4
  have hB:inN (atD f.Code k).B f.Code.length:=by
   generalize atD f.Code k=x at*
   cases hx<;>first| assumption| (simp at h4;done)| (exfalso;dsimp only at h4;omega)
  split at hj
  ·rcases List.mem_cons.1 hj with rfl| hj
   ·exact hB
   ·rw [one_mem hj];exact hk1
  ·split at hj
   ·rcases List.mem_cons.1 hj with rfl| hj
    ·exact hk1
    ·rw [one_mem hj];exact hB
   ·rw [one_mem hj];exact hk1
 ·rw [one_mem hj];exact hk1
theorem nextS_length (f:AFunc) (k:Int):(nextS f k).length≤2:=by
 unfold nextS
 repeat' split
 all_goals simp
structure AnnS (f:AFunc) (out:List (List Int)):Prop where
 len:out.length=f.Code.length
 set:∀k,inN k f.Code.length→IsS (atD out k)∧∀y∈atD out k,y<f.Slots.length
theorem AnnS.mem {f:AFunc} {out:List (List Int)} (h:AnnS f out):∀s∈out,s.length≤512:=fun s hs=>by
 obtain ⟨k,h1,h2,rfl⟩:=mem_atD hs
 exact (h.set k ⟨h1,by rw [←h.len];exact h2⟩).1.length
theorem mem_foldU {g:Int→List Int} {y:Int}:∀(l:List Int) (a:List Int),y∈l.foldl (fun acc j=>unionS acc (g j)) a↔y∈a∨∃j∈l,y∈g j∧0≤y∧y<512
 | [],a=>by simp
 | x::r,a=>by
   rw [List.foldl_cons,mem_foldU r,mem_unionS]
   constructor
   ·rintro ((h| h)| ⟨j,h1,h2⟩)
    ·exact .inl h
    ·exact .inr ⟨x,List.mem_cons_self,h⟩
    ·exact .inr ⟨j,List.mem_cons_of_mem _ h1,h2⟩
   ·rintro (h| ⟨j,h1,h2⟩)
    ·exact .inl (.inl h)
    ·rcases List.mem_cons.1 h1 with rfl| h1
     ·exact .inl (.inr h2)
     ·exact .inr ⟨j,h1,h2⟩
theorem IsS.foldU {g:Int→List Int}:∀(l:List Int) {a:List Int},IsS a→IsS (l.foldl (fun acc j=>unionS acc (g j)) a)
 | [],_,h=>h
 | x::r,_,h=>IsS.foldU r (h.union _)
def stepAt (f:AFunc) (out:List (List Int)) (k:Int):List Int:=(nextS f k).foldl (fun acc j=>unionS acc (inSet (atD f.Code j) (atD out j))) []
theorem IsS.stepAt (f:AFunc) (out:List (List Int)) (k:Int):IsS (Go.Proofs.YtgbkhjllbgmdcaaGreat.Q.stepAt f out k):=IsS.foldU _ IsS.nil
section
variable {n i par:Int} {f:AFunc} {out:List (List Int)}
theorem mem_stepAt (hf:WfF n i par f) (h:AnnS f out) {k y:Int}:y∈stepAt f out k↔∃j∈nextS f k,y∈inSet (atD f.Code j) (atD out j):=by
 unfold stepAt
 rw [mem_foldU]
 constructor
 ·rintro (h| ⟨j,h1,h2,_⟩)
  ·cases h
  ·exact ⟨j,h1,h2⟩
 ·rintro ⟨j,h1,h2⟩
  exact .inr ⟨j,h1,h2,((h.set j (hf.next h1).2).1.inSet _).rng y h2⟩
theorem stepAt_lt (hf:WfF n i par f) (h:AnnS f out) {k y:Int} (hy:y∈stepAt f out k):y<f.Slots.length:=by
 obtain ⟨j,h1,h2⟩:=(mem_stepAt hf h).1 hy
 have hj:=(hf.next h1).2
 rcases mem_inSet.1 h2 with h3| h3
 ·exact (h.set j hj).2 y h3.1
 ·exact ((hf.at_ hj).use h3.1).2
theorem step16_sp (hf:WfF n i par f) (h:AnnS f out):WP (r16_Step f ⟨out⟩) fun r=>r.Out.length=f.Code.length∧∀k,inN k f.Code.length→atD r.Out k=stepAt f out k:=by
 have hc:=hf.code
 have hout:=h.len
 unfold r16_Step
 (repeat' (first| (refine WP.chk (by (first| omega| (simp only [wpN] at*;omega))) fun _=>?_)| ((refine WP.bif (fun wh=>?_) (fun wh=>?_))<;>(try simp only [wpH] at wh)<;>(try (exfalso;omega)))))
 dsimp only
 have hrep:∀k:Int,atD (repD (f.Code.length:Int):List (List Int)) k=[]:=fun k=>by
  unfold atD repD
  rw [List.getD_eq_getElem?_getD,List.getElem?_replicate]
  split<;>rfl
 refine WP.loop (fun j=>0≤j.1∧j.1≤f.Code.length∧j.2.length=f.Code.length∧(∀t,0≤t→t<j.1→atD j.2 t=stepAt f out t)∧∀t,j.1≤t→t<f.Code.length→atD j.2 t=[]) (fun j=>f.Code.length- j.1.toNat) ⟨by simp,by simp,by dsimp only;rw [length_repD];omega,by intro t h1 h2;dsimp only at h2;omega,fun t _ _=>hrep t⟩ ?_
 rintro again1 ⟨k,own⟩ ⟨a1,a2,a3,a4,a5⟩ ih1
 dsimp only at a1 a2 a3 a4 a5 ih1 ⊢
 refine WP.bif (fun wh=>?_) (fun wh=>?_)<;>(try simp only [wpH] at wh)
 ·have hk:inN k f.Code.length:=⟨a1,wh⟩
  refine WP.call (next13_sp f k (by omega)) ?_
  rintro _ rfl
  have hnl:=nextS_length f k
  refine WP.loop (fun j=>0≤j.1∧j.1≤(nextS f k).length∧j.2.length=f.Code.length∧(∀t,0≤t→t≠k→atD j.2 t=atD own t)∧atD j.2 k=((nextS f k).take j.1.toNat).foldl (fun acc j=>unionS acc (inSet (atD f.Code j) (atD out j))) []) (fun j=>(nextS f k).length- j.1.toNat) ⟨by simp,by simp,a3,fun t _ _=>rfl,by dsimp only;rw [a5 k (Int.le_refl _) wh];rfl⟩ ?_
  rintro again2 ⟨t,own2⟩ ⟨b1,b2,b3,b4,b5⟩ ih2
  dsimp only at b1 b2 b3 b4 b5 ih2 ⊢
  refine WP.bif (fun wh=>?_) (fun wh=>?_)<;>(try simp only [wpH] at wh)
  ·have hm:atD (nextS f k) t∈nextS f k:=atD_mem ⟨b1,wh⟩
   have hj:=(hf.next hm).2
   obtain ⟨hj1,hj2⟩:=hj
   have hS:=h.set _ ⟨hj1,hj2⟩
   have hl:=hS.1.length
   have hown:IsS (atD own2 k):=by rw [b5];exact IsS.foldU _ IsS.nil
   have hol:=hown.length
   have htk:=take_atD (l:=nextS f k) (k:=t) ⟨b1,by omega⟩
   generalize hjj:atD (nextS f k) t=jj at*
   (repeat' (first| (refine WP.chk (by (first| omega| (simp only [wpN] at*;omega))) fun _=>?_)| ((refine WP.bif (fun wh=>?_) (fun wh=>?_))<;>(try simp only [wpH] at wh)<;>(try (exfalso;omega)))))
   refine WP.call (in_sp _ _ (by omega)) ?_
   rintro _ rfl
   have hil:=(hS.1.inSet (atD f.Code jj)).length
   refine WP.call (union_sp _ _ (by omega)) ?_
   rintro _ rfl
   (repeat' (first| (refine WP.chk (by (first| omega| (simp only [wpN] at*;omega))) fun _=>?_)| ((refine WP.bif (fun wh=>?_) (fun wh=>?_))<;>(try simp only [wpH] at wh)<;>(try (exfalso;omega)))))
   refine ih2 _ ⟨by dsimp only;omega,by dsimp only;omega,by dsimp only;rw [length_setD,b3],fun u h1 h2=>?_,?_⟩ (by dsimp only;omega)
   ·dsimp only
    rw [atD_setD ⟨a1,by omega⟩ h1,if_neg h2]
    exact b4 u h1 h2
   ·dsimp only
    rw [atD_setD ⟨a1,by omega⟩ a1,if_pos rfl,htk,List.foldl_append,←b5]
    rfl
  ·(repeat' (first| (refine WP.chk (by (first| omega| (simp only [wpN] at*;omega))) fun _=>?_)| ((refine WP.bif (fun wh=>?_) (fun wh=>?_))<;>(try simp only [wpH] at wh)<;>(try (exfalso;omega)))))
   rw [take_all (by omega)] at b5
   refine ih1 _ ⟨by dsimp only;omega,by dsimp only;omega,b3,fun u h1 h2=>?_,fun u h1 h2=>?_⟩ (by dsimp only;omega)
   ·dsimp only at h2 ⊢
    by_cases hu:u=k
    ·rw [hu];exact b5
    ·rw [b4 u h1 hu];exact a4 u h1 (by omega)
   ·dsimp only at h1 ⊢
    rw [b4 u (by omega) (by omega)];exact a5 u (by omega) h2
 ·exact WP.ret ⟨a3,fun u hu=>a4 u hu.1 (by have:=hu.2;omega)⟩
structure Live (f:AFunc) (out:List (List Int)):Prop where
 ann:AnnS f out
 ge:∀k,inN k f.Code.length→∀y∈stepAt f out k,y∈atD out k
structure Least (f:AFunc) (out:List (List Int)):Prop where
 live:Live f out
 fix:∀k,inN k f.Code.length→∀y∈atD out k,y∈stepAt f out k
 least:∀X,Live f X→∀k,inN k f.Code.length→∀y∈atD out k,y∈atD X k
theorem sub_length {a b:List Int} (ha:IsS a) (hb:IsS b) (h:∀x∈a,x∈b):a.length≤b.length∧(a.length=b.length→a=b):=by
 have e:b.filter (fun x=>decide (x∈a))=a:=(hb.filter _).ext ha fun x=>by
  rw [List.mem_filter,decide_eq_true_eq]
  exact ⟨fun q=>q.2,fun q=>⟨h x q,q⟩⟩
 refine ⟨by rw [←e];exact List.length_filter_le _ _,fun hl=>ha.ext hb fun x=>⟨h x,fun hx=>?_⟩⟩
 rw [←e,List.length_filter_eq_length_iff] at hl
 simpa using hl x hx
def total (l:List (List Int)):Nat:=(l.map List.length).sum
theorem total_le:∀{a b:List (List Int)},a.length=b.length→(∀(i:Nat) (h1:i<a.length) (h2:i<b.length),a[i].length≤b[i].length)→total a≤total b∧(total a=total b→∀(i:Nat) (h1:i<a.length) (h2:i<b.length),a[i].length=b[i].length)
 | [],[],_,_=>⟨Nat.le_refl _,fun _ i h1 _=>by simp at h1⟩
 | [],_::_,h,_=>by simp at h
 | _::_,[],h,_=>by simp at h
 | x::a,y::b,hl,h=>by
   have h0:=h 0 (by simp) (by simp)
   have hs:∀(i:Nat) (h1:i<a.length) (h2:i<b.length),a[i].length≤b[i].length:=fun i h1 h2=>h (i+1) (by simp;omega) (by simp;omega)
   obtain ⟨h3,h4⟩:=total_le (a:=a) (b:=b) (by simpa using hl) hs
   have e1:total (x::a)=x.length+total a:=by simp [total]
   have e2:total (y::b)=y.length+total b:=by simp [total]
   simp only [List.getElem_cons_zero] at h0
   rw [e1,e2]
   refine ⟨by omega,fun he i h1 h2=>?_⟩
   cases i with
   | zero=>simp;omega
   | succ i=>simpa using h4 (by omega) i (by simpa using h1) (by simpa using h2)
theorem total_bound {m:Nat}:∀{a:List (List Int)},(∀s∈a,s.length≤m)→total a≤a.length*m
 | [],_=>by simp [total]
 | x::a,h=>by
   have h1:=total_bound (a:=a) fun s hs=>h s (List.mem_cons_of_mem _ hs)
   have h2:=h x List.mem_cons_self
   have e1:total (x::a)=x.length+total a:=by simp [total]
   rw [e1,List.length_cons,Nat.succ_mul];omega
theorem stepAt_mono (hf:WfF n i par f) {X Y:List (List Int)} (hX:AnnS f X) (hY:AnnS f Y) (h:∀k,inN k f.Code.length→∀y∈atD X k,y∈atD Y k) {k y:Int} (hy:y∈stepAt f X k):y∈stepAt f Y k:=by
 obtain ⟨j,h1,h2⟩:=(mem_stepAt hf hX).1 hy
 refine (mem_stepAt hf hY).2 ⟨j,h1,?_⟩
 rw [mem_inSet] at h2 ⊢
 rcases h2 with h2| h2
 ·exact .inl ⟨h j (hf.next h1).2 y h2.1,h2.2⟩
 ·exact .inr h2
theorem solve_sp (hf:WfF n i par f):WP (r16_Solve f) fun l=>Least f l.Out:=by
 have hc:=hf.code
 unfold r16_Solve
 (repeat' (first| (refine WP.chk (by (first| omega| (simp only [wpN] at*;omega))) fun _=>?_)| ((refine WP.bif (fun wh=>?_) (fun wh=>?_))<;>(try simp only [wpH] at wh)<;>(try (exfalso;omega)))))
 have hrep:∀k:Int,atD (repD (f.Code.length:Int):List (List Int)) k=[]:=fun k=>by
  unfold atD repD
  rw [List.getD_eq_getElem?_getD,List.getElem?_replicate]
  split<;>rfl
 refine WP.loop (fun out=>AnnS f out∧(∀k,inN k f.Code.length→∀y∈atD out k,y∈stepAt f out k)∧∀X,Live f X→∀k,inN k f.Code.length→∀y∈atD out k,y∈atD X k) (fun out=>f.Code.length*512- total out) ⟨⟨by rw [length_repD];omega,fun k _=>by rw [hrep];exact ⟨IsS.nil,by simp⟩⟩,fun k _ y hy=>(by rw [hrep] at hy;cases hy),fun X _ k _ y hy=>(by rw [hrep] at hy;cases hy)⟩ ?_
 rintro again out ⟨a1,a2,a3⟩ ih
 refine WP.call (step16_sp hf a1) fun x1 ⟨b1,b2⟩=>?_
 have hA:AnnS f x1.Out:=⟨b1,fun k hk=>by rw [b2 k hk];exact ⟨IsS.stepAt _ _ _,fun y hy=>stepAt_lt hf a1 hy⟩⟩
 unfold r16_Same
 refine WP.call (R:=fun b=>b=decide (x1.Out=out)) ?_ ?_
 ·refine WP.call (sameAll_sp x1.Out out (by omega) fun s hs=>by have:=hA.mem s hs;omega) ?_
  rintro _ rfl
  exact WP.ret rfl
 rintro _ rfl
 refine WP.bif (fun wh=>?_) (fun wh=>?_)<;>(try simp only [wpH] at wh)
 ·refine WP.ret ⟨⟨a1,fun k hk y hy=>?_⟩,a2,a3⟩
  rw [←b2 k hk,wh] at hy
  exact hy
 ·have hsub:∀k,inN k f.Code.length→∀y∈atD out k,y∈atD x1.Out k:=fun k hk y hy=>by rw [b2 k hk];exact a2 k hk y hy
  refine ih _ ⟨hA,fun k hk y hy=>?_,fun X hX k hk y hy=>?_⟩ ?_
  ·rw [b2 k hk] at hy
   exact stepAt_mono hf a1 hA hsub hy
  ·rw [b2 k hk] at hy
   exact hX.ge k hk y (stepAt_mono hf a1 hX.ann (fun k hk=>a3 X hX k hk) hy)
  ·have hg:∀(l:List (List Int)) (t:Nat) (h:t<l.length),l[t]=atD l (t:Int):=fun l t h=>(atD_nat h).symm
   have hle:∀(t:Nat) (h1:t<out.length) (h2:t<x1.Out.length),out[t].length≤x1.Out[t].length∧(out[t].length=x1.Out[t].length→out[t]=x1.Out[t]):=fun t h1 h2=>by
    have hk:inN (t:Int) f.Code.length:=⟨by omega,by rw [a1.len] at h1;omega⟩
    rw [hg out t h1,hg x1.Out t h2]
    exact sub_length (a1.set _ hk).1 (hA.set _ hk).1 (hsub _ hk)
   obtain ⟨q1,q2⟩:=total_le (a:=out) (b:=x1.Out) (by rw [a1.len,b1]) fun t h1 h2=>(hle t h1 h2).1
   have q3:=total_bound (m:=512) (a:=x1.Out) hA.mem
   rw [b1] at q3
   have q4:total out≠total x1.Out:=fun he=>wh (List.ext_getElem (by rw [a1.len,b1]) fun t h2 h1=>((hle t h1 h2).2 (q2 he t h1 h2)).symm)
   omega
theorem Live.add (hf:WfF n i par f) {X Y:List (List Int)} {s:Int} (hs:inN s f.Slots.length) (h:Live f X) (hl:Y.length=X.length) (hY:∀k,inN k f.Code.length→atD Y k=addS (atD X k) s):Live f Y:=by
 have hsl:=hf.slots
 obtain ⟨hs1,hs2⟩:=hs
 have hA:AnnS f Y:=⟨by rw [hl,h.ann.len],fun k hk=>by
  rw [hY k hk]
  refine ⟨(h.ann.set k hk).1.add s,fun y hy=>?_⟩
  rcases mem_addS.1 hy with hy| ⟨rfl,_⟩
  ·exact (h.ann.set k hk).2 y hy
  ·exact hs2⟩
 refine ⟨hA,fun k hk y hy=>?_⟩
 rw [hY k hk,mem_addS]
 obtain ⟨j,h1,h2⟩:=(mem_stepAt hf hA).1 hy
 have hj:=(hf.next h1).2
 rw [hY j hj,mem_inSet,mem_addS] at h2
 by_cases hys:y=s
 ·exact .inr ⟨hys,by omega,by omega⟩
 ·refine .inl (h.ge k hk y ((mem_stepAt hf h.ann).2 ⟨j,h1,mem_inSet.2 ?_⟩))
  rcases h2 with ⟨h2| h2,h3⟩| h2
  ·exact .inl ⟨h2,h3⟩
  ·exact (hys h2.1).elim
  ·exact .inr h2
theorem lives_sp (c:DCodes) (hc:okC c) (hf:WfF n i par f):WP (draw_Lives c f) fun r=>okC r.2∧Live f r.1.Out:=by
 have hcd:=hf.code
 have hsl:=hf.slots
 unfold draw_Lives
 refine WP.call (solve_sp hf) fun x1 h1=>?_
 have h1l:=h1.live.ann.len
 (repeat' (first| (refine WP.chk (by (first| omega| (simp only [wpN] at*;omega))) fun _=>?_)| ((refine WP.bif (fun wh=>?_) (fun wh=>?_))<;>(try simp only [wpH] at wh)<;>(try (exfalso;omega)))))
 refine WP.call (next_sp c 3 hc (by omega)) fun x2 ⟨h2,h3,h4,_⟩=>?_
 refine WP.loop (fun j=>(0≤j.1∧j.1≤2)∧okC j.2.1∧Live f j.2.2) (fun j=>j.1.toNat) ⟨⟨h3,by omega⟩,h2,h1.live⟩ ?_
 rintro again1 ⟨m,c2,own⟩ ⟨a1,a2,a3⟩ ih
 dsimp only at a1 a2 a3 ih ⊢
 refine WP.bif (fun wh=>?_) (fun wh=>?_)<;>(try simp only [wpH] at wh)
 ·refine WP.bif (fun wh=>?_) (fun wh=>?_)<;>(try simp only [wpH] at wh)
  ·refine WP.call (next_sp c2 _ a2 (by omega)) fun x3 ⟨b1,b2,b3,_⟩=>?_
   have b4:=b3 (by omega)
   have hol:=a3.ann.len
   refine WP.loop (fun j=>0≤j.1∧j.1≤own.length∧j.2.length=own.length∧(∀t,0≤t→t<j.1→atD j.2 t=addS (atD own t) x3.1)∧∀t,j.1≤t→t<own.length→atD j.2 t=atD own t) (fun j=>own.length- j.1.toNat) ⟨by simp,by simp,rfl,by intro t q1 q2;dsimp only at q2;omega,fun t _ _=>rfl⟩ ?_
   rintro again2 ⟨k,own2⟩ ⟨d1,d2,d3,d4,d5⟩ ih2
   dsimp only at d1 d2 d3 d4 d5 ih2 ⊢
   refine WP.bif (fun wh=>?_) (fun wh=>?_)<;>(try simp only [wpH] at wh)
   ·have hkl:k<own.length:=by omega
    have hS:=a3.ann.set k ⟨d1,by omega⟩
    have hl5:=hS.1.length
    rw [←d5 k (Int.le_refl _) hkl] at hl5
    (repeat' (first| (refine WP.chk (by (first| omega| (simp only [wpN] at*;omega))) fun _=>?_)| ((refine WP.bif (fun wh=>?_) (fun wh=>?_))<;>(try simp only [wpH] at wh)<;>(try (exfalso;omega)))))
    refine WP.call (add_sp _ _ (by omega)) ?_
    rintro _ rfl
    (repeat' (first| (refine WP.chk (by (first| omega| (simp only [wpN] at*;omega))) fun _=>?_)| ((refine WP.bif (fun wh=>?_) (fun wh=>?_))<;>(try simp only [wpH] at wh)<;>(try (exfalso;omega)))))
    refine ih2 _ ⟨by dsimp only;omega,by dsimp only;omega,by dsimp only;rw [length_setD,d3],fun t q1 q2=>?_,fun t q1 q2=>?_⟩ (by dsimp only;omega)
    ·dsimp only at q2 ⊢
     rw [atD_setD ⟨d1,by omega⟩ q1]
     split
     ·rename_i q;rw [q,d5 k (Int.le_refl _) hkl]
     ·exact d4 t q1 (by omega)
    ·dsimp only at q1 ⊢
     rw [atD_setD ⟨d1,by omega⟩ (by omega),if_neg (by omega)]
     exact d5 t (by omega) q2
   ·refine WP.chk ⟨by omega,by omega⟩ fun _=>?_
    exact ih (m- 1,x3.2,own2) ⟨⟨by dsimp only;omega,by dsimp only;omega⟩,b1,a3.add hf ⟨b2,b4⟩ (by dsimp only;rw [d3]) fun k hk=>d4 k hk.1 (by have:=hk.2;omega)⟩ (by dsimp only;omega)
  ·exact WP.ret ⟨a2,a3⟩
 ·exact WP.ret ⟨a2,a3⟩
theorem shape17_sp (hf:f.Code.length≤1000000) {l:ALive} (h:AnnS f l.Out):WP (r17_shape f l) (·=true):=by
 have hl:=h.len
 unfold r17_shape
 refine WP.bif (fun wh=>?_) (fun wh=>?_)<;>(try simp only [wpH] at wh)
 ·exfalso;omega
 refine WP.loop (fun k=>0≤k∧k≤l.Out.length) (fun k=>l.Out.length- k.toNat) ⟨by omega,by omega⟩ ?_
 rintro again k ⟨a1,a2⟩ ih
 refine WP.bif (fun wh=>?_) (fun wh=>?_)<;>(try simp only [wpH] at wh)
 ·have hS:=h.set k ⟨a1,by omega⟩
  have hSl:=hS.1.length
  (repeat' (first| (refine WP.chk (by (first| omega| (simp only [wpN] at*;omega))) fun _=>?_)| ((refine WP.bif (fun wh=>?_) (fun wh=>?_))<;>(try simp only [wpH] at wh)<;>(try (exfalso;omega)))))
  refine WP.call (check4_sp _ (by omega)) ?_
  rintro _ rfl
  rw [ascS_iff.2 hS.1]
  (repeat' (first| (refine WP.chk (by (first| omega| (simp only [wpN] at*;omega))) fun _=>?_)| ((refine WP.bif (fun wh=>?_) (fun wh=>?_))<;>(try simp only [wpH] at wh)<;>(try (exfalso;omega)))))
  ·cases wh
  ·exfalso
   have:=hS.2 _ (atD_mem (l:=atD l.Out k) (i:=((atD l.Out k).length:Int)- 1) ⟨by omega,by omega⟩)
   omega
  ·exact ih _ ⟨by omega,by omega⟩ (by omega)
  ·exact ih _ ⟨by omega,by omega⟩ (by omega)
 ·exact WP.ret rfl
theorem missing17_sp (hf:WfF n i par f) {l:ALive} (h:Live f l.Out) {k:Int} (hk:inN k f.Code.length):WP (r17_missing f l k) (·=[]):=by
 have hc:=hf.code
 have hl:=h.ann.len
 obtain ⟨hk1,hk2⟩:=hk
 have hSk:=(h.ann.set k ⟨hk1,hk2⟩).1.length
 unfold r17_missing
 refine WP.call (next13_sp f k (by omega)) ?_
 rintro _ rfl
 have hnl:=nextS_length f k
 refine WP.loop (fun j=>0≤j.2∧j.2≤(nextS f k).length∧j.1=[]) (fun j=>(nextS f k).length- j.2.toNat) ⟨by simp,by simp,rfl⟩ ?_
 rintro again ⟨out,t⟩ ⟨a1,a2,rfl⟩ ih
 dsimp only at a1 a2 ih ⊢
 refine WP.bif (fun wh=>?_) (fun wh=>?_)<;>(try simp only [wpH] at wh)
 ·have hm:atD (nextS f k) t∈nextS f k:=atD_mem ⟨a1,wh⟩
  obtain ⟨hj1,hj2⟩:=(hf.next hm).2
  have hS:=h.ann.set _ ⟨hj1,hj2⟩
  have hSl:=hS.1.length
  have hsub:∀y∈inSet (atD f.Code (atD (nextS f k) t)) (atD l.Out (atD (nextS f k) t)),y∈atD l.Out k:=fun y hy=>h.ge k ⟨hk1,hk2⟩ y ((mem_stepAt hf h.ann).2 ⟨_,hm,hy⟩)
  generalize hjj:atD (nextS f k) t=jj at*
  have hil:=(hS.1.inSet (atD f.Code jj)).length
  (repeat' (first| (refine WP.chk (by (first| omega| (simp only [wpN] at*;omega))) fun _=>?_)| ((refine WP.bif (fun wh=>?_) (fun wh=>?_))<;>(try simp only [wpH] at wh)<;>(try (exfalso;omega)))))
  refine WP.call (in_sp _ _ (by omega)) ?_
  rintro _ rfl
  (repeat' (first| (refine WP.chk (by (first| omega| (simp only [wpN] at*;omega))) fun _=>?_)| ((refine WP.bif (fun wh=>?_) (fun wh=>?_))<;>(try simp only [wpH] at wh)<;>(try (exfalso;omega)))))
  refine WP.call (minus_sp _ _ (by omega) (by omega)) ?_
  rintro _ rfl
  have e:(inSet (atD f.Code jj) (atD l.Out jj)).filter (fun x=>!decide (x∈atD l.Out k))=[]:=by
   rw [List.filter_eq_nil_iff]
   intro y hy
   simp [hsub y hy]
  rw [e]
  refine WP.call (union_sp _ _ (by simp)) ?_
  rintro _ rfl
  (repeat' (first| (refine WP.chk (by (first| omega| (simp only [wpN] at*;omega))) fun _=>?_)| ((refine WP.bif (fun wh=>?_) (fun wh=>?_))<;>(try simp only [wpH] at wh)<;>(try (exfalso;omega)))))
  exact ih _ ⟨by dsimp only;omega,by dsimp only;omega,rfl⟩ (by dsimp only;omega)
 ·exact WP.ret rfl
theorem check17_sp (hf:WfF n i par f) {l:ALive} (h:Live f l.Out):WP (r17_Check f l) (·=0):=by
 have hc:=hf.code
 unfold r17_Check
 refine WP.call (R:=fun r=>r=(0,0,false)) ?_ ?_
 ·unfold r17_First
  refine WP.call (shape17_sp (by omega) h.ann) ?_
  rintro _ rfl
  refine WP.bif (fun wh=>by cases wh) fun _=>?_
  refine WP.loop (fun k=>0≤k∧k≤f.Code.length) (fun k=>f.Code.length- k.toNat) ⟨by omega,by omega⟩ ?_
  rintro again k ⟨a1,a2⟩ ih
  refine WP.bif (fun wh=>?_) (fun wh=>?_)<;>(try simp only [wpH] at wh)
  ·refine WP.call (missing17_sp hf h ⟨a1,wh⟩) ?_
   rintro _ rfl
   refine WP.bif (fun wh=>by simp at wh) fun _=>?_
   (repeat' (first| (refine WP.chk (by (first| omega| (simp only [wpN] at*;omega))) fun _=>?_)| ((refine WP.bif (fun wh=>?_) (fun wh=>?_))<;>(try simp only [wpH] at wh)<;>(try (exfalso;omega)))))
   exact ih _ ⟨by omega,by omega⟩ (by omega)
  ·exact WP.ret rfl
 rintro _ rfl
 refine WP.bif (fun wh=>by cases wh) fun _=>?_
 refine WP.call (shape17_sp (by omega) h.ann) ?_
 rintro _ rfl
 refine WP.bif (fun wh=>by cases wh) fun _=>?_
 exact WP.ret rfl
end
structure GraphS (n:Nat) (g:List (List Int)) (P:Int→Int→Prop):Prop where
 len:g.length=n
 set:∀s,inN s n→IsS (atD g s)∧∀y,y∈atD g s↔P s y
 lt:∀s y,inN s n→P s y→inN y n
theorem GraphS.congr {n:Nat} {g:List (List Int)} {P P':Int→Int→Prop} (h:GraphS n g P) (e:∀s y,P' s y↔P s y):GraphS n g P':=
 ⟨h.len,fun s hs=>⟨(h.set s hs).1,fun y=>((h.set s hs).2 y).trans (e s y).symm⟩,fun s y hs hp=>h.lt s y hs ((e s y).1 hp)⟩
theorem GraphS.add {n:Nat} {g:List (List Int)} {P:Int→Int→Prop} (h:GraphS n g P) (hn:n≤512) {a b:Int} (ha:inN a n) (hb:inN b n) (hab:b≠a):GraphS n (setD (setD g a (addS (atD g a) b)) b (addS (atD g b) a)) (fun s y=>P s y∨(s=a∧y=b)∨(s=b∧y=a)):=by
 have hl:=h.len
 obtain ⟨ha1,ha2⟩:=ha
 obtain ⟨hb1,hb2⟩:=hb
 have e:∀s,0≤s→atD (setD (setD g a (addS (atD g a) b)) b (addS (atD g b) a)) s=if s=b then addS (atD g b) a else if s=a then addS (atD g a) b else atD g s:=fun s hs=>by
  rw [atD_setD ⟨hb1,by rw [length_setD];omega⟩ hs,atD_setD ⟨ha1,by omega⟩ hs]
 refine ⟨by rw [length_setD,length_setD,hl],fun s hs=>?_,fun s y hs hp=>?_⟩
 ·obtain ⟨q1,q2⟩:=h.set s hs
  rw [e s hs.1]
  split
  ·rename_i he
   subst he
   refine ⟨q1.add _,fun y=>?_⟩
   rw [mem_addS,q2]
   constructor
   ·rintro (h1| ⟨rfl,_⟩)
    ·exact .inl h1
    ·exact .inr (.inr ⟨rfl,rfl⟩)
   ·rintro (h1| h1| h1)
    ·exact .inl h1
    ·exact (hab h1.1).elim
    ·exact .inr ⟨h1.2,by omega,by omega⟩
  ·rename_i he
   split
   ·rename_i he2
    subst he2
    refine ⟨q1.add _,fun y=>?_⟩
    rw [mem_addS,q2]
    constructor
    ·rintro (h1| ⟨rfl,_⟩)
     ·exact .inl h1
     ·exact .inr (.inl ⟨rfl,rfl⟩)
    ·rintro (h1| h1| h1)
     ·exact .inl h1
     ·exact .inr ⟨h1.2,by omega,by omega⟩
     ·exact (he h1.1).elim
   ·rename_i he2
    refine ⟨q1,fun y=>(q2 y).trans ⟨.inl,?_⟩⟩
    rintro (h1| h1| h1)
    ·exact h1
    ·exact (he2 h1.1).elim
    ·exact (he h1.1).elim
 ·rcases hp with hp| ⟨_,rfl⟩| ⟨_,rfl⟩
  ·exact h.lt s y hs hp
  ·exact ⟨hb1,hb2⟩
  ·exact ⟨ha1,ha2⟩
def Cl (f:AFunc) (strict:Bool) (k:Int) (L:List Int) (s t:Int):Prop:=remB (atD f.Code k)=true∧¬((atD f.Code k).Op=17∧(atD f.Code k).A=(atD f.Code k).B)∧s=(atD f.Code k).A∧t∈L∧t≠s∧(strict=true∨¬((atD f.Code k).Op=17∧(atD f.Code k).B=t))
def ClU (f:AFunc) (strict:Bool) (out:List (List Int)) (k:Int) (s t:Int):Prop:=∃j,0≤j∧j<k∧(Cl f strict j (atD out j) s t∨Cl f strict j (atD out j) t s)
def Edge (f:AFunc) (strict:Bool) (out:List (List Int)) (s t:Int):Prop:=ClU f strict out f.Code.length s t
theorem ClU.succ {f:AFunc} {strict:Bool} {out:List (List Int)} {k s t:Int} (hk:0≤k):ClU f strict out (k+1) s t↔ClU f strict out k s t∨Cl f strict k (atD out k) s t∨Cl f strict k (atD out k) t s:=by
 constructor
 ·rintro ⟨j,h1,h2,h3⟩
  by_cases h:j=k
  ·subst h;exact .inr h3
  ·exact .inl ⟨j,h1,by omega,h3⟩
 ·rintro (⟨j,h1,h2,h3⟩| h3)
  ·exact ⟨j,h1,by omega,h3⟩
  ·exact ⟨k,hk,by omega,h3⟩
section
variable {n i par:Int} {f:AFunc} {l:ALive}
theorem graph18_sp (hf:WfF n i par f) (h:Live f l.Out) (strict:Bool):WP (r18_graph f l strict) fun r=>r.2=0∧GraphS f.Slots.length r.1 (Edge f strict l.Out):=by
 have hc:=hf.code
 have hsl:=hf.slots
 have hl:=h.ann.len
 unfold r18_graph
 refine WP.call (check17_sp hf h) ?_
 rintro _ rfl
 refine WP.bif (fun wh=>by simp at wh) fun _=>?_
 refine WP.chk ⟨by omega,by omega⟩ fun _=>?_
 have hrep:∀k:Int,atD (repD (f.Slots.length:Int):List (List Int)) k=[]:=fun k=>by
  unfold atD repD
  rw [List.getD_eq_getElem?_getD,List.getElem?_replicate]
  split<;>rfl
 refine WP.loop (fun j=>(0≤j.1∧j.1≤f.Code.length)∧GraphS f.Slots.length j.2 (ClU f strict l.Out j.1)) (fun j=>f.Code.length- j.1.toNat) ⟨⟨by simp,by simp⟩,⟨by dsimp only;rw [length_repD];omega,fun s _=>?_,fun s y _ hp=>?_⟩⟩ ?_
 ·dsimp only
  rw [hrep]
  refine ⟨IsS.nil,fun y=>⟨fun q=>(by cases q),?_⟩⟩
  rintro ⟨j,h1,h2,_⟩
  exfalso;omega
 ·obtain ⟨j,h1,h2,_⟩:=hp
  exfalso;dsimp only at h2;omega
 rintro again1 ⟨k,out⟩ ⟨⟨a1,a2⟩,a3⟩ ih1
 dsimp only at a1 a2 a3 ih1 ⊢
 refine WP.bif (fun wh=>?_) (fun wh=>?_)<;>(try simp only [wpH] at wh)
 ·have hk:inN k f.Code.length:=⟨a1,wh⟩
  have hkl:=wh
  refine WP.chk ⟨a1,wh⟩ fun _=>?_
  refine WP.call (defines_sp _) ?_
  rintro _ rfl
  obtain ⟨hS,hSlt⟩:=h.ann.set k hk
  have hSl:=hS.length
  have hI:=hf.at_ hk
  have hskip:(¬∃s t,Cl f strict k (atD l.Out k) s t)→WP (again1 (k+1,out)) fun r=>r.2=0∧GraphS f.Slots.length r.1 (Edge f strict l.Out):=fun hno=>by
   refine ih1 (k+1,out) ⟨⟨by dsimp only;omega,by dsimp only;omega⟩,a3.congr fun s y=>?_⟩ (by dsimp only;omega)
   rw [ClU.succ a1]
   constructor
   ·rintro (q| q| q)
    ·exact q
    ·exact (hno ⟨_,_,q⟩).elim
    ·exact (hno ⟨_,_,q⟩).elim
   ·exact .inl
  refine WP.join (fun _=>¬((atD f.Code k).Op=17∧(atD f.Code k).A=(atD f.Code k).B)) ?_ ?_
  ·rintro ⟨⟩ hns
   cases hrem:remB (atD f.Code k) with
   | false=>
     simp only [Bool.false_eq_true,if_false]
     have hno:¬∃s t,Cl f strict k (atD l.Out k) s t:=by
      rintro ⟨s,t,q,_⟩
      rw [hrem] at q;cases q
     refine WP.loop (fun j=>j=(0,out)) (fun _=>1) rfl ?_
     rintro again2 _ rfl ih2
     refine WP.chk ⟨a1,by omega⟩ fun _=>?_
     refine WP.bif (fun _=>?_) (fun _=>?_)
     ·refine WP.bif (fun q=>by cases q) fun _=>?_
      refine WP.chk ⟨by omega,by omega⟩ fun _=>hskip hno
     ·exact WP.chk ⟨by omega,by omega⟩ fun _=>hskip hno
   | true=>
     simp only [if_true]
     obtain ⟨hA1,hA2⟩:=hI.dfn hrem
     generalize hx:atD f.Code k=x at*
     generalize hL:atD l.Out k=L at*
     refine WP.loop (fun j=>(0≤j.1∧j.1≤L.length)∧GraphS f.Slots.length j.2 (fun s t=>ClU f strict l.Out k s t∨Cl f strict k (L.take j.1.toNat) s t∨Cl f strict k (L.take j.1.toNat) t s)) (fun j=>L.length- j.1.toNat) ⟨⟨by simp,by simp⟩,a3.congr fun s y=>⟨?_,.inl⟩⟩ ?_
     ·rintro (q| q| q)
      ·exact q
      ·have:=q.2.2.2.1;simp at this
      ·have:=q.2.2.2.1;simp at this
     rintro again2 ⟨t,g⟩ ⟨⟨b1,b2⟩,b3⟩ ih2
     dsimp only at b1 b2 b3 ih2 ⊢
     refine WP.chk ⟨a1,by omega⟩ fun _=>?_
     refine WP.bif (fun wh=>?_) (fun wh=>?_)<;>(try simp only [wpH] at wh)
     ·have hLt:atD L t∈L:=atD_mem ⟨b1,wh⟩
      have hin:inN (atD L t) f.Slots.length:=⟨(hS.rng _ hLt).1,hSlt _ hLt⟩
      have htk:=take_atD (l:=L) (k:=t) ⟨b1,wh⟩
      have htl:=wh
      obtain ⟨hin1,hin2⟩:=hin
      generalize hv:atD L t=v at*
      have hstep:∀s y,(Cl f strict k (L.take (t+1).toNat) s y)↔Cl f strict k (L.take t.toNat) s y∨(s=x.A∧y=v∧v≠x.A∧(strict=true∨¬(x.Op=17∧x.B=v))):=fun s y=>by
       unfold Cl
       rw [hx,htk,List.mem_append,List.mem_singleton]
       constructor
       ·rintro ⟨q1,q2,q3,q4| q4,q5,q6⟩
        ·exact .inl ⟨q1,q2,q3,q4,q5,q6⟩
        ·subst q4;exact .inr ⟨q3,rfl,q3▸q5,q6⟩
       ·rintro (⟨q1,q2,q3,q4,q5,q6⟩| ⟨q3,q4,q5,q6⟩)
        ·exact ⟨q1,q2,q3,.inl q4,q5,q6⟩
        ·subst q4;exact ⟨hrem,hns,q3,.inr rfl,q3▸q5,q6⟩
      have hno:(v=x.A∨(strict=false∧x.Op=17∧x.B=v))→WP (again2 (t+1,g)) fun r=>r.2=0∧GraphS f.Slots.length r.1 (Edge f strict l.Out):=fun hq=>by
       have hq':∀s y,¬(s=x.A∧y=v∧v≠x.A∧(strict=true∨¬(x.Op=17∧x.B=v))):=by
        rintro s y ⟨q1,q2,q3,q4⟩
        rcases hq with hq| hq
        ·exact q3 hq
        ·rcases q4 with q4| q4
         ·rw [hq.1] at q4;cases q4
         ·exact q4 hq.2
       refine ih2 (t+1,g) ⟨⟨by dsimp only;omega,by dsimp only;omega⟩,b3.congr fun s y=>?_⟩ (by dsimp only;omega)
       dsimp only
       rw [hstep,hstep]
       have h1:=hq' s y
       have h2:=hq' y s
       simp only [h1,h2,or_false]
      refine WP.bif (fun _=>?_) (fun q=>by cases q)
      refine WP.chk ⟨a1,by omega⟩ fun _=>?_
      refine WP.chk ⟨b1,wh⟩ fun _=>?_
      refine WP.join (fun _=>v≠x.A∧(strict=true∨¬(x.Op=17∧x.B=v))) ?_ ?_
      ·rintro ⟨_,_,_⟩ hq
       have hgl:=b3.len
       have hgA:=(b3.set x.A ⟨hA1,hA2⟩).1.length
       have hgv:=(b3.set v ⟨hin1,hin2⟩).1.length
       refine WP.chk ⟨hA1,by omega⟩ fun _=>?_
       refine WP.call (add_sp _ _ (by omega)) ?_
       rintro _ rfl
       refine WP.chk ⟨hin1,by omega⟩ fun _=>?_
       refine WP.call (add_sp _ _ (by omega)) ?_
       rintro _ rfl
       refine WP.chk ⟨hA1,by omega⟩ fun _=>?_
       refine WP.chk ⟨hin1,by rw [length_setD];omega⟩ fun _=>?_
       refine WP.chk ⟨by omega,by omega⟩ fun _=>?_
       refine ih2 _ ⟨⟨by dsimp only;omega,by dsimp only;omega⟩,(b3.add (by omega) ⟨hA1,hA2⟩ ⟨hin1,hin2⟩ hq.1).congr fun s y=>?_⟩ (by dsimp only;omega)
       dsimp only
       rw [hstep,hstep]
       obtain ⟨hq1,hq2⟩:=hq
       grind
      ·intro k3 hk3
       refine WP.bif (fun wh=>?_) (fun wh=>?_)<;>(try simp only [wpH] at wh)
       ·exact WP.chk ⟨by omega,by omega⟩ fun _=>hno (.inl wh)
       ·have hne:=wh
        refine WP.bif (fun wh=>?_) (fun wh=>?_)<;>(try simp only [wpH] at wh)
        ·have hst:=wh
         refine WP.bif (fun wh=>?_) (fun wh=>?_)<;>(try simp only [wpH] at wh)
         ·have h17:=wh
          refine WP.bif (fun wh=>?_) (fun wh=>?_)<;>(try simp only [wpH] at wh)
          ·exact WP.chk ⟨by omega,by omega⟩ fun _=>hno (.inr ⟨hst,h17,wh⟩)
          ·exact hk3 _ ⟨hne,.inr fun q=>wh q.2⟩
         ·exact hk3 _ ⟨hne,.inr fun q=>wh q.1⟩
        ·exact hk3 _ ⟨hne,.inl wh⟩
     ·refine WP.chk ⟨by omega,by omega⟩ fun _=>?_
      refine ih1 (k+1,g) ⟨⟨by dsimp only;omega,by dsimp only;omega⟩,b3.congr fun s y=>?_⟩ (by dsimp only;omega)
      dsimp only
      rw [ClU.succ a1,hL,take_all (by omega)]
  ·intro k2 hk2
   have hself:(atD f.Code k).Op=17→(atD f.Code k).A=(atD f.Code k).B→¬∃s t,Cl f strict k (atD l.Out k) s t:=fun q1 q2 ⟨s,t,_,q,_⟩=>q ⟨q1,q2⟩
   refine WP.bif (fun wh=>?_) (fun wh=>?_)<;>(try simp only [wpH] at wh)
   ·have h17:=wh
    refine WP.bif (fun wh=>?_) (fun wh=>?_)<;>(try simp only [wpH] at wh)
    ·exact WP.chk ⟨by omega,by omega⟩ fun _=>hskip (hself h17 wh)
    ·exact hk2 _ fun q=>wh q.2
   ·exact hk2 _ fun q=>wh q.1
 ·refine WP.ret ⟨rfl,a3.congr fun s y=>?_⟩
  unfold Edge
  rw [show k=(f.Code.length:Int) by omega]
theorem Graph18_sp (hf:WfF n i par f) (h:Live f l.Out):WP (r18_Graph f l) fun r=>r.2=0∧GraphS f.Slots.length r.1 (Edge f false l.Out):=by
 unfold r18_Graph
 exact WP.call (graph18_sp hf h false) fun x hx=>WP.ret hx
theorem moves18_sp (hf:WfF n i par f):WP (r18_Moves f) fun r=>r.length≤f.Code.length∧∀m∈r,∃k,inN k f.Code.length∧(atD f.Code k).Op=17∧m=⟨(atD f.Code k).A,(atD f.Code k).B⟩∧inN m.e0 f.Slots.length∧inN m.e1 f.Slots.length∧m.e0≠m.e1:=by
 have hc:=hf.code
 unfold r18_Moves
 refine WP.loop (fun j=>(0≤j.1∧j.1≤f.Code.length)∧(j.2.length:Int)≤j.1∧∀m∈j.2,∃k,inN k f.Code.length∧(atD f.Code k).Op=17∧m=(⟨(atD f.Code k).A,(atD f.Code k).B⟩:Arr2Int)∧inN m.e0 f.Slots.length∧inN m.e1 f.Slots.length∧m.e0≠m.e1) (fun j=>f.Code.length- j.1.toNat) ⟨⟨by simp,by simp⟩,by simp,by simp⟩ ?_
 rintro again1 ⟨k,out⟩ ⟨⟨a1,a2⟩,a3,a4⟩ ih1
 dsimp only at a1 a2 a3 a4 ih1 ⊢
 refine WP.bif (fun wh=>?_) (fun wh=>?_)<;>(try simp only [wpH] at wh)
 ·have hkl:=wh
  refine WP.chk ⟨a1,wh⟩ fun _=>?_
  have hI:=hf.at_ ⟨a1,wh⟩
  refine WP.join (fun b=>b=false→(atD f.Code k).Op=17∧(atD f.Code k).A≠(atD f.Code k).B) ?_ ?_
  ·intro b hb
   refine WP.loop (fun j=>(j.1=false→(atD f.Code k).Op=17∧(atD f.Code k).A≠(atD f.Code k).B)∧0≤j.2∧j.2≤out.length) (fun j=>out.length- j.2.toNat) ⟨hb,by simp,by simp⟩ ?_
   rintro again2 ⟨old,t⟩ ⟨b1,b2,b3⟩ ih2
   dsimp only at b1 b2 b3 ih2 ⊢
   refine WP.bif (fun wh=>?_) (fun wh=>?_)<;>(try simp only [wpH] at wh)
   ·have htl:=wh
    refine WP.bif (fun wh=>?_) (fun wh=>?_)<;>(try simp only [wpH] at wh)
    ·refine WP.chk ⟨by omega,by omega⟩ fun _=>?_
     exact ih2 _ ⟨fun q=>(by cases q),by dsimp only;omega,by dsimp only;omega⟩ (by dsimp only;omega)
    ·refine WP.chk ⟨by omega,by omega⟩ fun _=>?_
     refine WP.chk ⟨by omega,by omega⟩ fun _=>?_
     exact ih2 _ ⟨fun _=>b1 wh,by dsimp only;omega,by dsimp only;omega⟩ (by dsimp only;omega)
   ·refine WP.bif (fun wh=>?_) (fun wh=>?_)<;>(try simp only [wpH] at wh)
    ·obtain ⟨h17,hne⟩:=b1 wh
     refine WP.chk (by simp only [List.length_singleton];omega) fun _=>?_
     refine WP.chk ⟨by omega,by omega⟩ fun _=>?_
     refine ih1 _ ⟨⟨by dsimp only;omega,by dsimp only;omega⟩,by simp only [List.length_append,List.length_singleton];omega,fun m hm=>?_⟩ (by dsimp only;omega)
     rcases List.mem_append.1 hm with hm| hm
     ·exact a4 m hm
     ·rw [one_mem hm]
      refine ⟨k,⟨a1,hkl⟩,h17,rfl,hI.dfn (by simp [remB,h17]),hI.use (by simp [useS,h17]),hne⟩
    ·refine WP.chk ⟨by omega,by omega⟩ fun _=>?_
     exact ih1 _ ⟨⟨by dsimp only;omega,by dsimp only;omega⟩,by dsimp only;omega,a4⟩ (by dsimp only;omega)
  ·intro k2 hk2
   refine WP.bif (fun wh=>?_) (fun wh=>?_)<;>(try simp only [wpH] at wh)
   ·exact hk2 _ fun q=>by cases q
   ·exact hk2 _ fun q=>⟨wh,by simpa using q⟩
 ·exact WP.ret ⟨by omega,a4⟩
end
def membS (to:List Int) (s:Int):List Int:=((List.range to.length).filter fun t:Nat=>decide (atD to (t:Int)=s)).map fun t:Nat=>(t:Int)
theorem mem_membS {to:List Int} {s y:Int}:y∈membS to s↔inN y to.length∧atD to y=s:=by
 unfold membS
 rw [List.mem_map]
 constructor
 ·rintro ⟨a,h1,rfl⟩
  rw [List.mem_filter,List.mem_range,decide_eq_true_eq] at h1
  exact ⟨⟨by omega,by omega⟩,h1.2⟩
 ·rintro ⟨⟨h1,h2⟩,h3⟩
  refine ⟨y.toNat,?_,by omega⟩
  rw [List.mem_filter,List.mem_range,decide_eq_true_eq,Int.toNat_of_nonneg h1]
  exact ⟨by omega,h3⟩
theorem membS_length (to:List Int) (s:Int):(membS to s).length≤to.length:=by
 unfold membS
 rw [List.length_map]
 exact Nat.le_trans (List.length_filter_le _ _) (by simp)
theorem members_sp (to:List Int) (s:Int) (hl:to.length≤1000000):WP (r19_Members to s) (·=membS to s):=by
 unfold r19_Members
 refine WP.loop (fun j=>∃m:Nat,m≤to.length∧j.1=m∧j.2=((List.range m).filter fun t:Nat=>decide (atD to (t:Int)=s)).map fun t:Nat=>(t:Int)) (fun j=>to.length- j.1.toNat) ⟨0,by simp,by simp,by simp⟩ ?_
 rintro again ⟨t,out⟩ ⟨m,h1,h2,h3⟩ ih
 dsimp only at h2 h3 ih ⊢
 subst h2
 have hol:out.length≤m:=by
  rw [h3,List.length_map]
  exact Nat.le_trans (List.length_filter_le _ _) (by simp)
 refine WP.bif (fun wh=>?_) (fun wh=>?_)<;>(try simp only [wpH] at wh)
 ·have hlt:=wh
  refine WP.chk ⟨by omega,by omega⟩ fun _=>?_
  refine WP.bif (fun wh=>?_) (fun wh=>?_)<;>(try simp only [wpH] at wh)
  ·refine WP.chk (by simp only [List.length_singleton];omega) fun _=>?_
   refine WP.chk ⟨by omega,by omega⟩ fun _=>?_
   refine ih _ ⟨m+1,by omega,by simp,?_⟩ (by dsimp only;omega)
   rw [List.range_succ,List.filter_append,List.map_append,←h3]
   simp [wh]
  ·refine WP.chk ⟨by omega,by omega⟩ fun _=>?_
   refine ih _ ⟨m+1,by omega,by simp,?_⟩ (by dsimp only;omega)
   rw [List.range_succ,List.filter_append,List.map_append,←h3]
   simp [wh]
 ·refine WP.ret ?_
  rw [h3]
  unfold membS
  rw [show m=to.length by omega]
def apartP (g:List (List Int)) (to:List Int) (a b:Int):Prop:=∀x∈membS to a,∀y∈membS to b,y∉atD g x
theorem apart_sp (g:List (List Int)) (to:List Int) (a b:Int) (hl:to.length≤1000000) (hg:to.length≤g.length) (hgl:∀s,inN s g.length→(atD g s).length≤1000000):WP (r19_apart g to a b) fun r=>(r=true↔apartP g to a b):=by
 unfold r19_apart
 refine WP.call (members_sp to a hl) ?_
 rintro _ rfl
 refine WP.call (members_sp to b hl) ?_
 rintro _ rfl
 have hla:=membS_length to a
 have hlb:=membS_length to b
 refine WP.loop (fun j=>(0≤j∧j≤(membS to a).length)∧∀t,0≤t→t<j→∀y∈membS to b,y∉atD g (atD (membS to a) t)) (fun j=>(membS to a).length- j.toNat) ⟨⟨by omega,by omega⟩,fun t h1 h2=>by exfalso;omega⟩ ?_
 rintro again1 t ⟨⟨a1,a2⟩,a3⟩ ih1
 refine WP.bif (fun wh=>?_) (fun wh=>?_)<;>(try simp only [wpH] at wh)
 ·have htl:=wh
  have hm:=atD_mem (l:=membS to a) (i:=t) ⟨a1,wh⟩
  obtain ⟨⟨q1,q2⟩,q3⟩:=mem_membS.1 hm
  refine WP.loop (fun j=>(0≤j∧j≤(membS to b).length)∧∀u,0≤u→u<j→atD (membS to b) u∉atD g (atD (membS to a) t)) (fun j=>(membS to b).length- j.toNat) ⟨⟨by omega,by omega⟩,fun t h1 h2=>by exfalso;omega⟩ ?_
  rintro again2 u ⟨⟨b1,b2⟩,b3⟩ ih2
  refine WP.bif (fun wh=>?_) (fun wh=>?_)<;>(try simp only [wpH] at wh)
  ·have hul:=wh
   have hm2:=atD_mem (l:=membS to b) (i:=u) ⟨b1,wh⟩
   have hgl2:=hgl (atD (membS to a) t) ⟨q1,by omega⟩
   refine WP.chk ⟨by omega,by omega⟩ fun _=>?_
   refine WP.chk ⟨by omega,by omega⟩ fun _=>?_
   refine WP.chk ⟨by omega,by omega⟩ fun _=>?_
   refine WP.call (has_sp _ _ (by omega)) ?_
   rintro _ rfl
   refine WP.bif (fun wh=>?_) (fun wh=>?_)<;>(try simp only [wpH] at wh)
   ·exact WP.ret ⟨fun q=>(by cases q),fun q=>(q _ hm _ hm2 wh).elim⟩
   ·refine WP.chk ⟨by omega,by omega⟩ fun _=>?_
    refine ih2 _ ⟨⟨by omega,by omega⟩,fun v h1 h2=>?_⟩ (by omega)
    by_cases hv:v=u
    ·rw [hv];exact wh
    ·exact b3 v h1 (by omega)
  ·refine WP.chk ⟨by omega,by omega⟩ fun _=>?_
   refine ih1 _ ⟨⟨by omega,by omega⟩,fun v h1 h2 y hy=>?_⟩ (by omega)
   by_cases hv:v=t
   ·rw [hv]
    obtain ⟨u',e1,e2,rfl⟩:=mem_atD hy
    exact b3 u' e1 (by omega)
   ·exact a3 v h1 (by omega) y hy
 ·refine WP.ret ⟨fun _ x hx y hy=>?_,fun _=>rfl⟩
  obtain ⟨t',e1,e2,rfl⟩:=mem_atD hx
  exact a3 t' e1 (by omega) y hy
section
variable {n i par:Int} {f:AFunc} {g:List (List Int)}
end
def ValidP (f:AFunc) (to:List Int):Prop:=to.length=f.Slots.length∧∀s,inN s to.length→inN (atD to s) to.length∧(atD f.Slots (atD to s)).Size=(atD f.Slots s).Size∧atD to (atD to s)=atD to s
theorem rvalid_sp (f:AFunc) (to:List Int) (hs:f.Slots.length≤1000):WP (r19_Valid f to) fun r=>(r=true↔ValidP f to):=by
 unfold r19_Valid
 refine WP.bif (fun wh=>?_) (fun wh=>?_)
 ·rw [Bool.not_eq_true',decide_eq_false_iff_not] at wh
  exact WP.ret ⟨fun q=>(by cases q),fun q=>(wh (by rw [q.1])).elim⟩
 rw [Bool.not_eq_false',decide_eq_true_eq] at wh
 have hl:to.length=f.Slots.length:=by omega
 refine WP.loop (fun j=>(0≤j∧j≤to.length)∧∀s,0≤s→s<j→inN (atD to s) to.length) (fun j=>to.length- j.toNat) ⟨⟨by omega,by omega⟩,fun s h1 h2=>by exfalso;omega⟩ ?_
 rintro again k ⟨⟨a1,a2⟩,a3⟩ ih
 refine WP.bif (fun wh=>?_) (fun wh=>?_)<;>(try simp only [wpH] at wh)
 ·have hkl:=wh
  refine WP.chk ⟨a1,wh⟩ fun _=>?_
  refine WP.bif (fun wh=>?_) (fun wh=>?_)<;>(try simp only [wpH] at wh)
  ·exact WP.ret ⟨fun q=>(by cases q),fun q=>by have:=(q.2 k ⟨a1,hkl⟩).1.1;omega⟩
  have h0:=wh
  refine WP.chk ⟨a1,hkl⟩ fun _=>?_
  refine WP.bif (fun wh=>?_) (fun wh=>?_)<;>(try simp only [wpH] at wh)
  ·exact WP.ret ⟨fun q=>(by cases q),fun q=>by have:=(q.2 k ⟨a1,hkl⟩).1.2;omega⟩
  refine WP.chk ⟨by omega,by omega⟩ fun _=>?_
  refine ih _ ⟨⟨by omega,by omega⟩,fun s h1 h2=>?_⟩ (by omega)
  by_cases hs:s=k
  ·rw [hs];exact ⟨h0,wh⟩
  ·exact a3 s h1 (by omega)
 ·refine WP.loop (fun j=>(0≤j∧j≤to.length)∧∀s,0≤s→s<j→(atD f.Slots (atD to s)).Size=(atD f.Slots s).Size∧atD to (atD to s)=atD to s) (fun j=>to.length- j.toNat) ⟨⟨by omega,by omega⟩,fun s h1 h2=>by exfalso;omega⟩ ?_
  rintro again2 t ⟨⟨b1,b2⟩,b3⟩ ih2
  refine WP.bif (fun wh=>?_) (fun wh=>?_)<;>(try simp only [wpH] at wh)
  ·have htl:=wh
   obtain ⟨c1,c2⟩:=a3 t b1 (by omega)
   refine WP.chk ⟨b1,wh⟩ fun _=>?_
   refine WP.chk ⟨c1,by omega⟩ fun _=>?_
   refine WP.chk ⟨b1,by omega⟩ fun _=>?_
   refine WP.bif (fun wh=>?_) (fun wh=>?_)<;>(try simp only [wpH] at wh)
   ·exact WP.ret ⟨fun q=>(by cases q),fun q=>(wh (q.2 t ⟨b1,htl⟩).2.1).elim⟩
   have hz:=wh
   refine WP.chk ⟨b1,htl⟩ fun _=>?_
   refine WP.chk ⟨c1,c2⟩ fun _=>?_
   refine WP.chk ⟨b1,htl⟩ fun _=>?_
   refine WP.bif (fun wh=>?_) (fun wh=>?_)<;>(try simp only [wpH] at wh)
   ·exact WP.ret ⟨fun q=>(by cases q),fun q=>(wh (q.2 t ⟨b1,htl⟩).2.2).elim⟩
   refine WP.chk ⟨by omega,by omega⟩ fun _=>?_
   refine ih2 _ ⟨⟨by omega,by omega⟩,fun s h1 h2=>?_⟩ (by omega)
   by_cases hs:s=t
   ·rw [hs];exact ⟨hz,wh⟩
   ·exact b3 s h1 (by omega)
  ·exact WP.ret ⟨fun _=>⟨hl,fun s hs=>⟨a3 s hs.1 (by have:=hs.2;omega),b3 s hs.1 (by have:=hs.2;omega)⟩⟩,fun _=>rfl⟩
section
variable {n i par:Int} {f:AFunc}
end
theorem atD_ext {α:Type} [Inhabited α] {a b:List α} (hl:a.length=b.length) (h:∀k,inN k a.length→atD a k=atD b k):a=b:=
 List.ext_getElem hl fun t h1 h2=>by rw [←atD_nat h1,←atD_nat h2];exact h _ ⟨by omega,by omega⟩
theorem repD_at {α:Type} [Inhabited α] (n k:Int):atD (repD n:List α) k=default:=by
 unfold atD repD
 rw [List.getD_eq_getElem?_getD,List.getElem?_replicate]
 split<;>rfl
def deadB (f:AFunc) (out:List (List Int)) (k:Int):Bool:=remB (atD f.Code k)&&!decide ((atD f.Code k).A∈atD out k)
section
variable {n i par:Int} {f:AFunc}
theorem rdead20_sp (hf:WfF n i par f) {l:ALive} (h:AnnS f l.Out) {k:Int} (hk:inN k f.Code.length):WP (r20_dead f l k) (·=deadB f l.Out k):=by
 have hl:=h.len
 obtain ⟨k1,k2⟩:=hk
 unfold r20_dead deadB
 refine WP.chk ⟨k1,k2⟩ fun _=>?_
 refine WP.call (defines_sp _) ?_
 rintro _ rfl
 cases hrem:remB (atD f.Code k) with
 | false=>
   refine WP.bif (fun q=>by cases q) fun _=>?_
   exact WP.ret rfl
 | true=>
   refine WP.bif (fun _=>?_) (fun q=>by cases q)
   refine WP.chk ⟨k1,by omega⟩ fun _=>?_
   have:=(h.set k ⟨k1,k2⟩).1.length
   refine WP.call (has_sp _ _ (by omega)) ?_
   rintro _ rfl
   exact WP.ret (by simp)
def keepB (f:AFunc) (out:List (List Int)) (to:List Int) (k:Int):Bool:= !deadB f out k&&!(decide ((atD f.Code k).Op=17)&&decide (atD to (atD f.Code k).A=atD to (atD f.Code k).B))
def keepL (f:AFunc) (out:List (List Int)) (to:List Int) (m:Nat):List Bool:=(List.range m).map fun k:Nat=>keepB f out to (k:Int)
theorem keepL_at {f:AFunc} {out:List (List Int)} {to:List Int} {m:Nat} {k:Int} (hk:inN k m):atD (keepL f out to m) k=keepB f out to k:=by
 obtain ⟨h1,h2⟩:=hk
 unfold keepL atD
 rw [List.getD_eq_getElem?_getD,List.getElem?_map,List.getElem?_range (by omega)]
 simp [Int.toNat_of_nonneg h1]
theorem rkeep20_sp (hf:WfF n i par f) {l:ALive} (h:AnnS f l.Out) {to:List Int} (ht:to.length=f.Slots.length):WP (r20_Keep f l to) (·=keepL f l.Out to f.Code.length):=by
 have hc:=hf.code
 unfold r20_Keep
 refine WP.loop (fun j=>∃m:Nat,m≤f.Code.length∧j.1=m∧j.2=keepL f l.Out to m) (fun j=>f.Code.length- j.1.toNat) ⟨0,by omega,rfl,rfl⟩ ?_
 rintro again ⟨k,out⟩ ⟨m,h1,h2,h3⟩ ih
 dsimp only at h2 h3 ih ⊢
 subst h2 h3
 have hdl:(keepL f l.Out to m).length=m:=by simp [keepL]
 have hsucc:keepL f l.Out to (m+1)=keepL f l.Out to m++[keepB f l.Out to m]:=by simp [keepL,List.range_succ]
 refine WP.bif (fun wh=>?_) (fun wh=>?_)<;>(try simp only [wpH] at wh)
 ·have hkl:=wh
  have hI:=hf.at_ (k:=m) ⟨by omega,wh⟩
  refine WP.chk ⟨by omega,wh⟩ fun _=>?_
  refine WP.call (rdead20_sp hf h ⟨by omega,wh⟩) ?_
  rintro _ rfl
  have hgo:∀b,keepB f l.Out to m=b→WP (again ((m:Int)+1,keepL f l.Out to m++[b])) (·=keepL f l.Out to f.Code.length):=fun b hb=>by
   refine ih _ ⟨m+1,by omega,by simp,?_⟩ (by dsimp only;omega)
   rw [hsucc,hb]
  refine WP.bif (fun wh=>?_) (fun wh=>?_)<;>(try simp only [wpH] at wh)
  ·have hnd:=wh
   refine WP.bif (fun wh=>?_) (fun wh=>?_)<;>(try simp only [wpH] at wh)
   ·obtain ⟨p1,p2⟩:=hI.dfn (by simp [remB,wh])
    obtain ⟨p3,p4⟩:=hI.use (by simp [useS,wh]:(atD f.Code m).B∈useS (atD f.Code m))
    refine WP.chk ⟨by omega,by omega⟩ fun _=>?_
    refine WP.chk ⟨by omega,by omega⟩ fun _=>?_
    refine WP.chk (by simp only [List.length_singleton];omega) fun _=>?_
    refine WP.chk ⟨by omega,by omega⟩ fun _=>hgo _ ?_
    simp [keepB,hnd,wh]
   ·refine WP.chk (by simp only [List.length_singleton];omega) fun _=>?_
    refine WP.chk ⟨by omega,by omega⟩ fun _=>hgo _ ?_
    simp [keepB,hnd,wh]
  ·refine WP.chk (by simp only [List.length_singleton];omega) fun _=>?_
   refine WP.chk ⟨by omega,by omega⟩ fun _=>hgo _ ?_
   simp [keepB,wh]
 ·refine WP.ret ?_
  rw [show m=f.Code.length by omega]
end
def renN (s:Int) (l:List Int):Int:=if s<0∨(l.length:Int)≤s then s else atD l s
def renI (x:AInstr) (l:List Int):AInstr:=if x.Op=15 then ⟨x.Op,x.A,renN x.B l,x.C,x.Imm⟩ else if x.Op=16 then ⟨x.Op,renN x.A l,x.B,x.C,x.Imm⟩ else if x.Op=17 then ⟨x.Op,renN x.A l,renN x.B l,x.C,x.Imm⟩ else x
theorem renamed15_sp (s:Int) (l:List Int):WP (r15_renamed s l) (·=renN s l):=by
 unfold r15_renamed renN
 refine WP.bif (fun wh=>?_) (fun wh=>?_)<;>(try simp only [wpH] at wh)
 ·exact WP.ret (by rw [if_pos (.inl wh)])
 have h0:=wh
 refine WP.bif (fun wh=>?_) (fun wh=>?_)<;>(try simp only [wpH] at wh)
 ·exact WP.ret (by rw [if_pos (.inr wh)])
 refine WP.chk ⟨h0,wh⟩ fun _=>?_
 exact WP.ret (by rw [if_neg (by omega)])
theorem Renamed15_sp (x:AInstr) (l:List Int):WP (r15_Renamed x l) (·=renI x l):=by
 unfold r15_Renamed renI
 refine WP.bif (fun wh=>?_) (fun wh=>?_)<;>(try simp only [wpH] at wh)
 ·refine WP.call (renamed15_sp _ _) ?_
  rintro _ rfl
  exact WP.ret (by rw [if_pos wh])
 have h15:=wh
 refine WP.bif (fun wh=>?_) (fun wh=>?_)<;>(try simp only [wpH] at wh)
 ·refine WP.call (renamed15_sp _ _) ?_
  rintro _ rfl
  exact WP.ret (by rw [if_neg h15,if_pos wh])
 have h16:=wh
 refine WP.bif (fun wh=>?_) (fun wh=>?_)<;>(try simp only [wpH] at wh)
 ·refine WP.call (renamed15_sp _ _) ?_
  rintro _ rfl
  refine WP.call (renamed15_sp _ _) ?_
  rintro _ rfl
  exact WP.ret (by rw [if_neg h15,if_neg h16,if_pos wh])
 ·exact WP.ret (by rw [if_neg h15,if_neg h16,if_neg wh])
theorem renN_in {s:Int} {l:List Int} (h:inN s l.length):renN s l=atD l s:=by
 unfold renN
 obtain ⟨h1,h2⟩:=h
 rw [if_neg (by omega)]
theorem renI_op (x:AInstr) (l:List Int):(renI x l).Op=x.Op:=by
 unfold renI
 split
 ·rfl
 ·split
  ·rfl
  ·split<;>rfl
theorem renI_rem (x:AInstr) (l:List Int):remB (renI x l)=remB x:=by unfold remB;rw [renI_op]
theorem renI_A (x:AInstr) (l:List Int) (h:remB x=true):(renI x l).A=renN x.A l:=by
 unfold remB at h
 simp only [Bool.or_eq_true,decide_eq_true_eq] at h
 unfold renI
 rcases h with h| h
 ·rw [if_neg (by omega),if_pos h]
 ·rw [if_neg (by omega),if_neg (by omega),if_pos h]
theorem renI_use (x:AInstr) (l:List Int):useS (renI x l)=if x.Op=15∨x.Op=17 then [renN x.B l] else []:=by
 unfold useS
 rw [renI_op]
 split
 ·rename_i h
  unfold renI
  rcases h with h| h
  ·rw [if_pos h]
  ·rw [if_neg (by omega),if_neg (by omega),if_pos h]
 ·rfl
def KeepP (f:AFunc) (keep:List Bool):Prop:=keep.length=f.Code.length∧∀k,inN k f.Code.length→atD keep k=false→remB (atD f.Code k)=true
section
variable {n i par:Int} {f:AFunc}
theorem check21_sp (hf:WfF n i par f) (r:ARename):WP (r21_Check f r) fun e=>(e=0↔ValidP f r.To∧KeepP f r.Keep):=by
 have hc:=hf.code
 have hsl:=hf.slots
 unfold r21_Check
 refine WP.call (rvalid_sp f _ (by omega)) fun b hb=>?_
 refine WP.bif (fun wh=>?_) (fun wh=>?_)
 ·exact WP.ret ⟨fun q=>(by simp at q),fun q=>(by rw [hb.2 q.1] at wh;cases wh)⟩
 have hv:=hb.1 (by simpa using wh)
 refine WP.bif (fun wh=>?_) (fun wh=>?_)
 ·rw [Bool.not_eq_true',decide_eq_false_iff_not] at wh
  exact WP.ret ⟨fun q=>(by simp at q),fun q=>(wh (by rw [q.2.1])).elim⟩
 rw [Bool.not_eq_false',decide_eq_true_eq] at wh
 have hl:=wh
 refine WP.loop (fun j=>(0≤j∧j≤f.Code.length)∧∀k,0≤k→k<j→atD r.Keep k=false→remB (atD f.Code k)=true) (fun j=>f.Code.length- j.toNat) ⟨⟨by omega,by omega⟩,fun k h1 h2=>by exfalso;omega⟩ ?_
 rintro again k ⟨⟨a1,a2⟩,a3⟩ ih
 refine WP.bif (fun wh=>?_) (fun wh=>?_)<;>(try simp only [wpH] at wh)
 ·have hkl:=wh
  have hgo:(atD r.Keep k=false→remB (atD f.Code k)=true)→WP (again (k+1)) fun e=>(e=0↔ValidP f r.To∧KeepP f r.Keep):=fun hq=>by
   refine ih _ ⟨⟨by omega,by omega⟩,fun t h1 h2=>?_⟩ (by omega)
   by_cases ht:t=k
   ·rw [ht];exact hq
   ·exact a3 t h1 (by omega)
  refine WP.chk ⟨a1,by omega⟩ fun _=>?_
  refine WP.bif (fun wh=>?_) (fun wh=>?_)<;>(try simp only [wpH] at wh)
  ·have hkf:=wh
   refine WP.chk ⟨a1,hkl⟩ fun _=>?_
   refine WP.call (removable_sp _) ?_
   rintro _ rfl
   refine WP.bif (fun wh=>?_) (fun wh=>?_)<;>(try simp only [wpH] at wh)
   ·exact WP.ret ⟨fun q=>(by simp at q),fun q=>(by rw [q.2.2 k ⟨a1,hkl⟩ hkf] at wh;cases wh)⟩
   ·exact WP.chk ⟨by omega,by omega⟩ fun _=>hgo fun _=>wh
  ·exact WP.chk ⟨by omega,by omega⟩ fun _=>hgo fun q=>(by rw [wh] at q;cases q)
 ·exact WP.ret ⟨fun _=>⟨hv,by omega,fun k hk=>a3 k hk.1 (by have:=hk.2;omega)⟩,fun _=>rfl⟩
structure UsedP (f:AFunc) (r:ARename) (m:Int) (u:List Int):Prop where
 set:IsS u
 lt:∀y∈u,inN y f.Slots.length
 use:∀k,0≤k→k<m→atD r.Keep k=true→∀y∈useS (renI (atD f.Code k) r.To),y∈u
 dfn:∀k,0≤k→k<m→atD r.Keep k=true→remB (atD f.Code k)=true→(renI (atD f.Code k) r.To).A∈u
theorem used21_sp (hf:WfF n i par f) {r:ARename} (hv:ValidP f r.To) (hk:KeepP f r.Keep):WP (r21_Used f r) (UsedP f r f.Code.length):=by
 have hc:=hf.code
 have hsl:=hf.slots
 have hkl:=hk.1
 have hto:=hv.1
 unfold r21_Used
 refine WP.loop (fun j=>(0≤j.2∧j.2≤f.Code.length)∧UsedP f r j.2 j.1) (fun j=>f.Code.length- j.2.toNat) ⟨⟨by simp,by simp⟩,IsS.nil,by simp,fun k h1 h2=>by exfalso;dsimp only at h2;omega,fun k h1 h2=>by exfalso;dsimp only at h2;omega⟩ ?_
 rintro again ⟨u,k⟩ ⟨⟨a1,a2⟩,a3⟩ ih
 dsimp only at a1 a2 a3 ih ⊢
 have hul:=a3.set.length
 refine WP.bif (fun wh=>?_) (fun wh=>?_)<;>(try simp only [wpH] at wh)
 ·have hkl2:=wh
  have hI:=hf.at_ ⟨a1,wh⟩
  refine WP.bif (fun wh=>?_) (fun wh=>?_)<;>(try simp only [wpH] at wh)
  ·refine WP.chk ⟨a1,wh⟩ fun _=>?_
   refine WP.bif (fun wh=>?_) (fun wh=>?_)<;>(try simp only [wpH] at wh)
   ·have hkf:=wh
    refine WP.chk ⟨by omega,by omega⟩ fun _=>?_
    refine ih _ ⟨⟨by dsimp only;omega,by dsimp only;omega⟩,a3.set,a3.lt,fun t h1 h2 h3=>?_,fun t h1 h2 h3=>?_⟩ (by dsimp only;omega)
    ·dsimp only at h2
     by_cases ht:t=k
     ·subst ht;rw [hkf] at h3;cases h3
     ·exact a3.use t h1 (by omega) h3
    ·dsimp only at h2
     by_cases ht:t=k
     ·subst ht;rw [hkf] at h3;cases h3
     ·exact a3.dfn t h1 (by omega) h3
   ·refine WP.chk ⟨a1,hkl2⟩ fun _=>?_
    refine WP.call (Renamed15_sp _ _) ?_
    rintro _ rfl
    refine WP.call (uses_sp _) ?_
    rintro _ rfl
    have hux:(useS (renI (atD f.Code k) r.To)).length≤1:=by unfold useS;split<;>simp
    have hur:∀y∈useS (renI (atD f.Code k) r.To),inN y f.Slots.length:=fun y hy=>by
     rw [renI_use] at hy
     split at hy
     ·rename_i h
      rw [one_mem hy]
      have hB:=hI.use (y:=(atD f.Code k).B) (by unfold useS;rw [if_pos h];exact List.mem_cons_self)
      rw [renN_in (by rw [hto];exact hB)]
      have:=(hv.2 _ (by rw [hto];exact hB)).1
      rw [hto] at this;exact this
     ·cases hy
    have hdr:remB (atD f.Code k)=true→inN (renI (atD f.Code k) r.To).A f.Slots.length:=fun h=>by
     have hA:=hI.dfn h
     rw [renI_A _ _ h,renN_in (by rw [hto];exact hA)]
     have:=(hv.2 _ (by rw [hto];exact hA)).1
     rw [hto] at this;exact this
    refine WP.call (union_sp _ _ (by omega)) ?_
    rintro _ rfl
    have hU:IsS (unionS u (useS (renI (atD f.Code k) r.To))):=a3.set.union _
    have hUl:=hU.length
    have hUlt:∀y∈unionS u (useS (renI (atD f.Code k) r.To)),inN y f.Slots.length:=fun y hy=>by
     rcases mem_unionS.1 hy with h| h
     ·exact a3.lt y h
     ·exact hur y h.1
    refine WP.call (defines_sp _) ?_
    rintro _ rfl
    rw [renI_rem]
    cases hrem:remB (atD f.Code k) with
    | true=>
      refine WP.bif (fun _=>?_) (fun q=>by cases q)
      refine WP.call (add_sp _ _ (by omega)) ?_
      rintro _ rfl
      obtain ⟨d1,d2⟩:=hdr hrem
      refine WP.chk ⟨by omega,by omega⟩ fun _=>?_
      refine ih _ ⟨⟨by dsimp only;omega,by dsimp only;omega⟩,hU.add _,fun y hy=>?_,fun t h1 h2 h3 y hy=>?_,fun t h1 h2 h3 h4=>?_⟩ (by dsimp only;omega)
      ·rcases mem_addS.1 hy with h| h
       ·exact hUlt y h
       ·rw [h.1];exact ⟨d1,d2⟩
      ·dsimp only at h2
       refine mem_addS.2 (.inl (mem_unionS.2 ?_))
       by_cases ht:t=k
       ·subst ht
        obtain ⟨e1,e2⟩:=hur y hy
        exact .inr ⟨hy,by omega,by omega⟩
       ·exact .inl (a3.use t h1 (by omega) h3 y hy)
      ·dsimp only at h2
       by_cases ht:t=k
       ·subst ht
        exact mem_addS.2 (.inr ⟨rfl,by simp only [if_true];omega,by simp only [if_true];omega⟩)
       ·exact mem_addS.2 (.inl (mem_unionS.2 (.inl (a3.dfn t h1 (by omega) h3 h4))))
    | false=>
      refine WP.bif (fun q=>by cases q) (fun _=>?_)
      refine WP.chk ⟨by omega,by omega⟩ fun _=>?_
      refine ih _ ⟨⟨by dsimp only;omega,by dsimp only;omega⟩,hU,hUlt,fun t h1 h2 h3 y hy=>?_,fun t h1 h2 h3 h4=>?_⟩ (by dsimp only;omega)
      ·dsimp only at h2
       refine mem_unionS.2 ?_
       by_cases ht:t=k
       ·subst ht
        obtain ⟨e1,e2⟩:=hur y hy
        exact .inr ⟨hy,by omega,by omega⟩
       ·exact .inl (a3.use t h1 (by omega) h3 y hy)
      ·dsimp only at h2
       by_cases ht:t=k
       ·subst ht;rw [hrem] at h4;cases h4
       ·exact mem_unionS.2 (.inl (a3.dfn t h1 (by omega) h3 h4))
  ·exfalso;omega
 ·refine WP.ret ⟨a3.set,a3.lt,fun t h1 h2=>a3.use t h1 (by omega),fun t h1 h2=>a3.dfn t h1 (by omega)⟩
end
def NumP (to u nums:List Int):Prop:=nums.length=to.length∧∀s,inN s to.length→atD to s∈u→inN (atD nums s) u.length∧atD u (atD nums s)=atD to s
theorem numbers21_sp (r:ARename) (u:List Int) (ht:r.To.length≤1000) (hu:u.length≤512):WP (r21_numbers r u) (NumP r.To u):=by
 unfold r21_numbers
 refine WP.loop (fun j=>(0≤j.1∧j.1≤r.To.length)∧(j.2.length:Int)=j.1∧∀s,0≤s→s<j.1→atD r.To s∈u→inN (atD j.2 s) u.length∧atD u (atD j.2 s)=atD r.To s) (fun j=>r.To.length- j.1.toNat) ⟨⟨by simp,by simp⟩,by simp,fun s h1 h2=>by exfalso;dsimp only at h2;omega⟩ ?_
 rintro again ⟨s,out⟩ ⟨⟨a1,a2⟩,a3,a4⟩ ih
 dsimp only at a1 a2 a3 a4 ih ⊢
 refine WP.bif (fun wh=>?_) (fun wh=>?_)<;>(try simp only [wpH] at wh)
 ·have hsl:=wh
  refine WP.loop (fun j=>(0≤j.2∧j.2≤u.length)∧((∃t,0≤t∧t<j.2∧atD u t=atD r.To s)→inN j.1 u.length∧atD u j.1=atD r.To s)) (fun j=>u.length- j.2.toNat) ⟨⟨by simp,by simp⟩,fun ⟨t,h1,h2,_⟩=>by exfalso;dsimp only at h2;omega⟩ ?_
  rintro again2 ⟨m,t⟩ ⟨⟨b1,b2⟩,b3⟩ ih2
  dsimp only at b1 b2 b3 ih2 ⊢
  refine WP.bif (fun wh=>?_) (fun wh=>?_)<;>(try simp only [wpH] at wh)
  ·have htl:=wh
   refine WP.chk ⟨b1,wh⟩ fun _=>?_
   refine WP.chk ⟨a1,hsl⟩ fun _=>?_
   refine WP.bif (fun wh=>?_) (fun wh=>?_)<;>(try simp only [wpH] at wh)
   ·refine WP.chk ⟨by omega,by omega⟩ fun _=>?_
    exact ih2 _ ⟨⟨by dsimp only;omega,by dsimp only;omega⟩,fun _=>⟨⟨b1,htl⟩,wh⟩⟩ (by dsimp only;omega)
   ·refine WP.chk ⟨by omega,by omega⟩ fun _=>?_
    refine ih2 _ ⟨⟨by dsimp only;omega,by dsimp only;omega⟩,fun ⟨x,h1,h2,h3⟩=>?_⟩ (by dsimp only;omega)
    dsimp only at h2 ⊢
    by_cases hx:x=t
    ·subst hx;exact (wh h3).elim
    ·exact b3 ⟨x,h1,by omega,h3⟩
  ·refine WP.chk (by simp only [List.length_singleton];omega) fun _=>?_
   refine WP.chk ⟨by omega,by omega⟩ fun _=>?_
   refine ih _ ⟨⟨by dsimp only;omega,by dsimp only;omega⟩,by simp only [List.length_append,List.length_singleton];omega,fun x h1 h2 h3=>?_⟩ (by dsimp only;omega)
   dsimp only at h2 ⊢
   by_cases hx:x=s
   ·subst hx
    rw [atD_last (by omega)]
    obtain ⟨t',e1,e2,e3⟩:=mem_atD h3
    exact b3 ⟨t',e1,by omega,e3⟩
   ·rw [atD_append_left (by omega)]
    exact a4 x h1 (by omega) h3
 ·exact WP.ret ⟨by omega,fun s hs=>a4 s hs.1 (by have:=hs.2;omega)⟩
def cntK (keep:List Bool):Nat→Int
 | 0=>0
 | m+1=>cntK keep m+(if atD keep m=true then 1 else 0)
theorem cntK_bd (keep:List Bool):∀m,0≤cntK keep m∧cntK keep m≤m
 | 0=>by simp [cntK]
 | m+1=>by
   have:=cntK_bd keep m
   unfold cntK
   split<;>omega
theorem cntK_mono (keep:List Bool) {a b:Nat} (h:a≤b):cntK keep a≤cntK keep b:=by
 induction b with
 | zero=>rw [Nat.le_zero.1 h];exact Int.le_refl _
 | succ b ih=>
   rcases Nat.lt_or_ge a (b+1) with h1| h1
   ·have:=ih (by omega)
    have e:cntK keep (b+1)=cntK keep b+(if atD keep b=true then 1 else 0):=rfl
    rw [e];split<;>omega
   ·rw [show a=b+1 by omega];exact Int.le_refl _
theorem places21_sp (r:ARename) (hl:r.Keep.length≤1000000):WP (r21_Places r) fun pl=>pl.length=r.Keep.length∧∀k,inN k r.Keep.length→atD pl k=cntK r.Keep k.toNat:=by
 unfold r21_Places
 refine WP.loop (fun j=>(0≤j.2.1∧j.2.1≤r.Keep.length)∧j.1=cntK r.Keep j.2.1.toNat∧(j.2.2.length:Int)=j.2.1∧∀k,0≤k→k<j.2.1→atD j.2.2 k=cntK r.Keep k.toNat) (fun j=>r.Keep.length- j.2.1.toNat) ⟨⟨by simp,by simp⟩,rfl,by simp,fun s h1 h2=>by exfalso;dsimp only at h2;omega⟩ ?_
 rintro again ⟨m,k,out⟩ ⟨⟨a1,a2⟩,a3,a4,a5⟩ ih
 dsimp only at a1 a2 a3 a4 a5 ih ⊢
 have hb:=cntK_bd r.Keep k.toNat
 refine WP.bif (fun wh=>?_) (fun wh=>?_)<;>(try simp only [wpH] at wh)
 ·have hkl:=wh
  have hkn:((k.toNat:Nat):Int)=k:=Int.toNat_of_nonneg a1
  have hnx:cntK r.Keep (k+1).toNat=cntK r.Keep k.toNat+(if atD r.Keep k=true then 1 else 0):=by
   rw [show (k+1).toNat=k.toNat+1 by omega]
   show cntK r.Keep k.toNat+(if atD r.Keep (k.toNat:Int)=true then 1 else 0)=_
   rw [hkn]
  have hout:∀x,0≤x→x<k+1→atD (out++[m]) x=cntK r.Keep x.toNat:=fun x h1 h2=>by
   by_cases hx:x=k
   ·subst hx;rw [atD_last (by omega)];exact a3
   ·rw [atD_append_left (by omega)];exact a5 x h1 (by omega)
  refine WP.chk (by simp only [List.length_singleton];omega) fun _=>?_
  refine WP.chk ⟨a1,wh⟩ fun _=>?_
  refine WP.bif (fun wh=>?_) (fun wh=>?_)
  ·refine WP.chk ⟨by omega,by omega⟩ fun _=>?_
   refine WP.chk ⟨by omega,by omega⟩ fun _=>?_
   exact ih _ ⟨⟨by dsimp only;omega,by dsimp only;omega⟩,by dsimp only;rw [hnx,if_pos wh];omega,by simp only [List.length_append,List.length_singleton];omega,hout⟩ (by dsimp only;omega)
  ·refine WP.chk ⟨by omega,by omega⟩ fun _=>?_
   exact ih _ ⟨⟨by dsimp only;omega,by dsimp only;omega⟩,by dsimp only;rw [hnx,if_neg (by rw [wh];simp)];omega,by simp only [List.length_append,List.length_singleton];omega,hout⟩ (by dsimp only;omega)
 ·exact WP.ret ⟨by omega,fun k hk=>a5 k hk.1 (by have:=hk.2;omega)⟩
def alnR (a:Int):Prop:=a=1∨a=2∨a=4∨a=8∨a=16∨a=32∨a=64
theorem rightS.aln {s:ASlot} (h:rightS s):alnR s.Align:=h.2
theorem alnR.max {a b:Int} (h:alnR a) (h':alnR b):alnR (Max.max a b):=by unfold alnR at*;omega
def retI (x:AInstr) (pl:List Int):AInstr:=if x.Op=20 then ⟨x.Op,atD pl x.A,x.B,x.C,x.Imm⟩ else if x.Op=21 then ⟨x.Op,x.A,atD pl x.B,x.C,x.Imm⟩ else x
section
variable {n i par:Int} {f:AFunc}
theorem ren_wf (hf:WfF n i par f) {r:ARename} (hv:ValidP f r.To) {u nums pl:List Int} {m:Int} (hU:UsedP f r f.Code.length u) (hN:NumP r.To u nums) {sl:List ASlot} (hsl:sl.length=u.length) (hsz:∀t,inN t u.length→(atD sl t).Size=(atD f.Slots (atD u t)).Size) (hpl:∀t,inN t f.Code.length→inN (atD pl t) m) {k:Int} (hk:inN k f.Code.length) (hkeep:atD r.Keep k=true):
 WfI n i par sl (fun t=>inN t m) (retI (renI (atD f.Code k) nums) pl):=by
 have hI:=hf.at_ hk
 have hto:=hv.1
 have huse:=hU.use k hk.1 hk.2 hkeep
 have hdfn:=hU.dfn k hk.1 hk.2 hkeep
 have hnum:∀s,inN s f.Slots.length→atD r.To s∈u→inN (renN s nums) sl.length∧(atD sl (renN s nums)).Size=(atD f.Slots s).Size:=fun s hs hm=>by
  have hs':inN s r.To.length:=by rw [hto];exact hs
  obtain ⟨q1,q2⟩:=hN.2 s hs' hm
  rw [renN_in (by rw [hN.1];exact hs'),hsl]
  refine ⟨q1,?_⟩
  rw [hsz _ q1,q2]
  exact (hv.2 s hs').2.1
 have hrn:∀s,inN s f.Slots.length→renN s r.To=atD r.To s:=fun s hs=>renN_in (by rw [hto];exact hs)
 generalize atD f.Code k=x at*
 cases hI with
 | const a w h1 h2=>exact .const a w h1 h2
 | copy o a b h1 h2 h3=>
   have:retI (renI ⟨o,a,b,0,0⟩ nums) pl=⟨o,a,b,0,0⟩:=by
    rcases h1 with rfl| rfl<;>rfl
   rw [this];exact .copy o a b h1 h2 h3
 | arith o a b c h1 h2 h3 h4 h5=>
   have:retI (renI ⟨o,a,b,c,0⟩ nums) pl=⟨o,a,b,c,0⟩:=by
    unfold renI retI
    dsimp only
    rw [if_neg (show ¬o=15 by omega),if_neg (show ¬o=16 by omega),if_neg (show ¬o=17 by omega),if_neg (show ¬o=20 by omega),if_neg (show ¬o=21 by omega)]
   rw [this];exact .arith o a b c h1 h2 h3 h4 h5
 | io o a h1 h2=>
   have:retI (renI ⟨o,a,0,0,0⟩ nums) pl=⟨o,a,0,0,0⟩:=by
    rcases h1 with rfl| rfl<;>rfl
   rw [this];exact .io o a h1 h2
 | load a s h1 h2=>
   have h3:=huse (renN s r.To) (by rw [renI_use];simp)
   rw [hrn s h2] at h3
   exact .load a (renN s nums) h1 (hnum s h2 h3).1
 | store s a h1 h2=>
   have h3:=hdfn rfl
   rw [renI_A _ _ rfl,show (⟨16,s,a,0,0⟩:AInstr).A=s from rfl,hrn s h1] at h3
   exact .store (renN s nums) a (hnum s h1 h3).1 h2
 | move s t h1 h2 h3=>
   have h4:=hdfn rfl
   rw [renI_A _ _ rfl,show (⟨17,s,t,0,0⟩:AInstr).A=s from rfl,hrn s h1] at h4
   have h5:=huse (renN t r.To) (by rw [renI_use];simp)
   rw [hrn t h2] at h5
   obtain ⟨p1,p2⟩:=hnum s h1 h4
   obtain ⟨p3,p4⟩:=hnum t h2 h5
   exact .move (renN s nums) (renN t nums) p1 p3 (by rw [p2,p4];exact h3)
 | arg a r h1 h2=>exact .arg a r h1 h2
 | param a k h1 h2=>exact .param a k h1 h2
 | jump t h1=>exact .jump (atD pl t) (hpl t h1)
 | branch a t h1 h2=>exact .branch a (atD pl t) h1 (hpl t h2)
 | call g h1 h2=>exact .call g h1 h2
 | ret=>exact .ret
 | trap w h1=>exact .trap w h1
theorem asc_short {m:Nat} {u:List Int} (h:IsS u) (hm:∀y∈u,inN y m):u.length≤m:=asc_length (lo:=0) (n:=m) h.asc fun x hx=>by have:=hm x hx;obtain ⟨a,b⟩:=this;omega
theorem apply21_sp (hf:WfF n i par f) (r:ARename):WP (r21_Apply f r) fun x=>(x.2=0∧ValidP f r.To∧KeepP f r.Keep∧WfF n i par x.1)∨(x.2≠0∧x.1=⟨0,[],[]⟩∧¬(ValidP f r.To∧KeepP f r.Keep)):=by
 have hc:=hf.code
 have hsl:=hf.slots
 unfold r21_Apply
 refine WP.call (check21_sp hf r) fun e he=>?_
 refine WP.bif (fun wh=>?_) (fun wh=>?_)
 ·rw [Bool.not_eq_true',decide_eq_false_iff_not] at wh
  exact WP.ret (.inr ⟨wh,rfl,fun q=>wh (he.2 q)⟩)
 rw [Bool.not_eq_false',decide_eq_true_eq] at wh
 obtain ⟨hv,hk⟩:=he.1 wh
 have hto:=hv.1
 have hkl:=hk.1
 refine WP.call (used21_sp hf hv hk) fun u hU=>?_
 have hul:=asc_short hU.set hU.lt
 refine WP.loop (fun j=>(0≤j.1∧j.1≤u.length)∧(j.2.length:Int)=j.1∧(∀x∈j.2,rightS x)∧∀t,0≤t→t<j.1→(atD j.2 t).Size=(atD f.Slots (atD u t)).Size) (fun j=>u.length- j.1.toNat) ⟨⟨by simp,by simp⟩,by simp,by simp,fun t h1 h2=>by exfalso;dsimp only at h2;omega⟩ ?_
 rintro again1 ⟨t,sl⟩ ⟨⟨a1,a2⟩,a3,a4,a5⟩ ih1
 dsimp only at a1 a2 a3 a4 a5 ih1 ⊢
 refine WP.bif (fun wh=>?_) (fun wh=>?_)<;>(try simp only [wpH] at wh)
 ·have htl:=wh
  have hut:=hU.lt _ (atD_mem ⟨a1,wh⟩)
  refine WP.chk ⟨a1,wh⟩ fun _=>?_
  refine WP.chk hut fun _=>?_
  refine WP.chk ⟨a1,htl⟩ fun _=>?_
  refine WP.call (members_sp _ _ (by omega)) ?_
  rintro _ rfl
  have hml:=membS_length r.To (atD u t)
  have hr0:=hf.rightS _ (atD_mem hut)
  refine WP.loop (fun j=>(0≤j.1∧j.1≤(membS r.To (atD u t)).length)∧j.2.Size=(atD f.Slots (atD u t)).Size∧alnR j.2.Align) (fun j=>(membS r.To (atD u t)).length- j.1.toNat) ⟨⟨by simp,by simp⟩,rfl,hr0.aln⟩ ?_
  rintro again2 ⟨q,x⟩ ⟨⟨b1,b2⟩,b3,b4⟩ ih2
  dsimp only at b1 b2 b3 b4 ih2 ⊢
  refine WP.bif (fun wh=>?_) (fun wh=>?_)<;>(try simp only [wpH] at wh)
  ·have hql:=wh
   have hmm:=(mem_membS.1 (atD_mem ⟨b1,wh⟩)).1
   rw [hto] at hmm
   refine WP.chk ⟨b1,wh⟩ fun _=>?_
   refine WP.chk hmm fun _=>?_
   refine WP.chk ⟨by omega,by omega⟩ fun _=>?_
   exact ih2 _ ⟨⟨by dsimp only;omega,by dsimp only;omega⟩,b3,b4.max (hf.rightS _ (atD_mem hmm)).aln⟩ (by dsimp only;omega)
  ·refine WP.chk (by omega) fun _=>?_
   refine WP.chk (by simp only [List.length_singleton];omega) fun _=>?_
   refine WP.chk ⟨by omega,by omega⟩ fun _=>?_
   refine ih1 _ ⟨⟨by dsimp only;omega,by dsimp only;omega⟩,by simp only [List.length_append,List.length_singleton];omega,fun y hy=>?_,fun y h1 h2=>?_⟩ (by dsimp only;omega)
   ·rcases List.mem_append.1 hy with h| h
    ·exact a4 y h
    ·rw [one_mem h]
     refine ⟨?_,b4⟩
     rw [b3]
     exact hr0.1
   ·dsimp only at h2 ⊢
    by_cases hy:y=t
    ·subst hy;rw [atD_last (by omega)];exact b3
    ·rw [atD_append_left (by omega)];exact a5 y h1 (by omega)
 ·have hsu:sl.length=u.length:=by omega
  refine WP.call (numbers21_sp r u (by omega) (by omega)) fun nums hN=>?_
  refine WP.call (places21_sp r (by omega)) fun pl ⟨hp1,hp2⟩=>?_
  have hlastk:atD r.Keep ((f.Code.length:Int)- 1)=true:=by
   cases h:atD r.Keep ((f.Code.length:Int)- 1) with
   | true=>rfl
   | false=>
     have h1:=hk.2 _ ⟨by omega,by omega⟩ h
     unfold remB at h1
     rcases hf.last with q| q<;>rw [q] at h1<;>simp at h1
  have htot:cntK r.Keep f.Code.length=cntK r.Keep (f.Code.length- 1)+1:=by
   have e:f.Code.length=(f.Code.length- 1)+1:=by omega
   have e2:cntK r.Keep ((f.Code.length- 1)+1)=cntK r.Keep (f.Code.length- 1)+(if atD r.Keep ((f.Code.length- 1:Nat):Int)=true then 1 else 0):=rfl
   rw [←e] at e2
   rw [e2,show ((f.Code.length- 1:Nat):Int)=(f.Code.length:Int)- 1 by omega,if_pos hlastk]
  have hplr:∀t,inN t f.Code.length→inN (atD pl t) (cntK r.Keep f.Code.length):=fun t ht=>by
   obtain ⟨t1,t2⟩:=ht
   rw [hp2 t ⟨t1,by omega⟩]
   have h1:=cntK_bd r.Keep t.toNat
   have h2:=cntK_mono r.Keep (a:=t.toNat) (b:=f.Code.length- 1) (by omega)
   exact ⟨h1.1,by omega⟩
  have hbd:=cntK_bd r.Keep f.Code.length
  refine WP.loop (fun j=>(0≤j.1∧j.1≤f.Code.length)∧(j.2.length:Int)=cntK r.Keep j.1.toNat∧(∀x∈j.2,WfI n i par sl (fun t=>inN t (cntK r.Keep f.Code.length)) x)∧(j.1=f.Code.length→(atD j.2 ((j.2.length:Int)- 1)).Op=23∨(atD j.2 ((j.2.length:Int)- 1)).Op=24)) (fun j=>f.Code.length- j.1.toNat) ⟨⟨by simp,by simp⟩,rfl,by simp,fun h=>by exfalso;dsimp only at h;omega⟩ ?_
  rintro again3 ⟨k,code⟩ ⟨⟨b1,b2⟩,b3,b4,b5⟩ ih3
  dsimp only at b1 b2 b3 b4 b5 ih3 ⊢
  have hbk:=cntK_bd r.Keep k.toNat
  refine WP.bif (fun wh=>?_) (fun wh=>?_)<;>(try simp only [wpH] at wh)
  ·have hkl2:=wh
   have hkn:((k.toNat:Nat):Int)=k:=Int.toNat_of_nonneg b1
   have hnx:cntK r.Keep (k+1).toNat=cntK r.Keep k.toNat+(if atD r.Keep k=true then 1 else 0):=by
    rw [show (k+1).toNat=k.toNat+1 by omega]
    show cntK r.Keep k.toNat+(if atD r.Keep (k.toNat:Int)=true then 1 else 0)=_
    rw [hkn]
   refine WP.chk ⟨b1,by omega⟩ fun _=>?_
   refine WP.bif (fun wh=>?_) (fun wh=>?_)
   ·rw [Bool.not_eq_true'] at wh
    refine WP.chk ⟨by omega,by omega⟩ fun _=>?_
    refine ih3 _ ⟨⟨by dsimp only;omega,by dsimp only;omega⟩,by dsimp only;rw [hnx,wh];simpa using b3,b4,fun h=>?_⟩ (by dsimp only;omega)
    exfalso
    dsimp only at h
    rw [show k=(f.Code.length:Int)- 1 by omega,hlastk] at wh
    cases wh
   ·rw [Bool.not_eq_false'] at wh
    have hkeep:=wh
    refine WP.chk ⟨b1,hkl2⟩ fun _=>?_
    refine WP.call (Renamed15_sp _ _) ?_
    rintro _ rfl
    have hW:=ren_wf hf hv hU hN hsu (fun t ht=>a5 t ht.1 (by have:=ht.2;omega)) hplr ⟨b1,hkl2⟩ hkeep
    have hI:=hf.at_ ⟨b1,hkl2⟩
    have hop:(retI (renI (atD f.Code k) nums) pl).Op=(atD f.Code k).Op:=by
     rw [←renI_op (atD f.Code k) nums]
     unfold retI
     split
     ·rfl
     ·split<;>rfl
    have hj20:(renI (atD f.Code k) nums).Op=20→inN (renI (atD f.Code k) nums).A f.Code.length:=fun h=>by
     have h':=h
     rw [renI_op] at h
     have e:renI (atD f.Code k) nums=atD f.Code k:=by unfold renI;rw [if_neg (by omega),if_neg (by omega),if_neg (by omega)]
     rw [e]
     generalize atD f.Code k=x at*
     cases hI<;>first| assumption| (simp at h;done)| (exfalso;dsimp only at h;omega)
    have hj21:(renI (atD f.Code k) nums).Op=21→inN (renI (atD f.Code k) nums).B f.Code.length:=fun h=>by
     rw [renI_op] at h
     have e:renI (atD f.Code k) nums=atD f.Code k:=by unfold renI;rw [if_neg (by omega),if_neg (by omega),if_neg (by omega)]
     rw [e]
     generalize atD f.Code k=x at*
     cases hI<;>first| assumption| (simp at h;done)| (exfalso;dsimp only at h;omega)
    refine WP.join (fun x=>x=retI (renI (atD f.Code k) nums) pl) ?_ ?_
    ·rintro _ rfl
     refine WP.chk (by omega) fun _=>?_
     refine WP.chk (by simp only [List.length_singleton];omega) fun _=>?_
     refine WP.chk ⟨by omega,by omega⟩ fun _=>?_
     refine ih3 _ ⟨⟨by dsimp only;omega,by dsimp only;omega⟩,by simp only [List.length_append,List.length_singleton];rw [hnx,if_pos hkeep];omega,fun x hx=>?_,fun h=>?_⟩ (by dsimp only;omega)
     ·rcases List.mem_append.1 hx with h| h
      ·exact b4 x h
      ·rw [one_mem h];exact hW
     ·dsimp only at h ⊢
      rw [atD_last (by simp only [List.length_append,List.length_singleton];omega),hop,show k=(f.Code.length:Int)- 1 by omega]
      exact hf.last
    ·intro k3 hk3
     refine WP.bif (fun wh=>?_) (fun wh=>?_)<;>(try simp only [wpH] at wh)
     ·have h20:=wh
      obtain ⟨j1,j2⟩:=hj20 wh
      refine WP.chk ⟨j1,by omega⟩ fun _=>?_
      exact hk3 _ (by unfold retI;rw [if_pos h20])
     have h20:=wh
     refine WP.bif (fun wh=>?_) (fun wh=>?_)<;>(try simp only [wpH] at wh)
     ·have h21:=wh
      obtain ⟨j1,j2⟩:=hj21 wh
      refine WP.chk ⟨j1,by omega⟩ fun _=>?_
      exact hk3 _ (by unfold retI;rw [if_neg h20,if_pos h21])
     ·exact hk3 _ (by unfold retI;rw [if_neg h20,if_neg wh])
  ·have hke:k=f.Code.length:=by omega
   subst hke
   have hlen:(code.length:Int)=cntK r.Keep f.Code.length:=by simpa using b3
   have hb0:=cntK_bd r.Keep (f.Code.length- 1)
   refine WP.ret (.inl ⟨rfl,hv,hk,⟨hf.parq,by dsimp only;omega,a4,⟨by dsimp only;omega,by dsimp only;omega⟩,fun x hx=>?_,b5 rfl⟩⟩)
   have:=b4 x hx
   dsimp only
   rw [hlen]
   exact this
end
theorem before23_sp (a b:ASlot):WP (r23_before a b) fun _=>True:=by
 unfold r23_before
 refine WP.bif (fun _=>WP.ret trivial) fun _=>?_
 exact WP.bif (fun _=>WP.ret trivial) fun _=>WP.ret trivial
theorem mem_slice {l:List Int} {a b y:Int} (h:y∈sliceD l a b):y∈l:=by
 unfold sliceD at h
 exact List.mem_of_mem_drop (List.mem_of_mem_take h)
theorem length_slice (l:List Int) {a b:Int} (h1:0≤a) (h2:a≤b) (h3:b≤l.length):((sliceD l a b).length:Int)=b- a:=by
 unfold sliceD
 rw [List.length_take,List.length_drop]
 omega
theorem order23_sp (s:List ASlot) (hs:s.length≤1000):WP (r23_Order s) fun r=>r.length=s.length∧∀y∈r,inN y s.length:=by
 unfold r23_Order
 refine WP.loop (fun j=>(0≤j.1∧j.1≤s.length)∧(j.2.length:Int)=j.1∧∀y∈j.2,inN y j.1) (fun j=>s.length- j.1.toNat) ⟨⟨by simp,by simp⟩,by simp,by simp⟩ ?_
 rintro again ⟨i,out⟩ ⟨⟨a1,a2⟩,a3,a4⟩ ih
 dsimp only at a1 a2 a3 a4 ih ⊢
 refine WP.bif (fun wh=>?_) (fun wh=>?_)<;>(try simp only [wpH] at wh)
 ·have hil:=wh
  refine WP.join (fun k=>0≤k∧k≤out.length) ?_ ?_
  ·rintro k ⟨k1,k2⟩
   have l1:=length_slice out (a:=0) (b:=k) (by omega) k1 k2
   have l2:=length_slice out (a:=k) (b:=out.length) k1 k2 (Int.le_refl _)
   refine WP.chk ⟨by omega,k1,k2⟩ fun _=>?_
   refine WP.chk (by omega) fun _=>?_
   refine WP.chk (by simp only [List.length_singleton];omega) fun _=>?_
   refine WP.chk ⟨k1,k2,Int.le_refl _⟩ fun _=>?_
   refine WP.chk (by simp only [List.length_append,List.length_singleton];omega) fun _=>?_
   refine WP.chk ⟨by omega,by omega⟩ fun _=>?_
   refine ih _ ⟨⟨by dsimp only;omega,by dsimp only;omega⟩,by simp only [List.length_append,List.length_singleton];omega,fun y hy=>?_⟩ (by dsimp only;omega)
   dsimp only at hy ⊢
   rw [List.mem_append,List.mem_append] at hy
   rcases hy with (h| h)| h
   ·obtain ⟨q1,q2⟩:=a4 y (mem_slice h);exact ⟨q1,by omega⟩
   ·rw [one_mem h];exact ⟨a1,by omega⟩
   ·obtain ⟨q1,q2⟩:=a4 y (mem_slice h);exact ⟨q1,by omega⟩
  ·intro k2 hk2
   refine WP.loop (fun j=>0≤j∧j≤out.length) (fun j=>j.toNat) ⟨by omega,Int.le_refl _⟩ ?_
   rintro again2 k ⟨b1,b2⟩ ih2
   refine WP.bif (fun wh=>?_) (fun wh=>?_)<;>(try simp only [wpH] at wh)
   ·have hkl:=wh
    obtain ⟨q1,q2⟩:=a4 _ (atD_mem (l:=out) (i:=k- 1) ⟨by omega,by omega⟩)
    refine WP.chk ⟨a1,hil⟩ fun _=>?_
    refine WP.chk ⟨by omega,by omega⟩ fun _=>?_
    refine WP.chk ⟨by omega,by omega⟩ fun _=>?_
    refine WP.chk ⟨q1,by omega⟩ fun _=>?_
    refine WP.call (before23_sp _ _) fun b _=>?_
    refine WP.bif (fun _=>?_) (fun _=>hk2 _ ⟨b1,b2⟩)
    refine WP.chk ⟨by omega,by omega⟩ fun _=>?_
    exact ih2 _ ⟨by omega,by omega⟩ (by omega)
   ·exact hk2 _ ⟨b1,b2⟩
 ·exact WP.ret ⟨by omega,fun y hy=>by obtain ⟨q1,q2⟩:=a4 y hy;exact ⟨q1,by omega⟩⟩
def rgtP (a:AInterval):Prop:=0≤a.Off∧0≤a.Size∧a.Off+a.Size≤2147483647
theorem rrightG_sp (a:AInterval):WP (r03_Right a) fun b=>(b=true↔rgtP a):=by
 unfold r03_Right rgtP
 refine WP.call (rbound_sp _) ?_
 rintro _ rfl
 refine WP.bif (fun wh=>?_) (fun wh=>?_)
 ·have h1:=(boundB_iff _).1 wh
  refine WP.call (rbound_sp _) ?_
  rintro _ rfl
  refine WP.bif (fun wh=>?_) (fun wh=>?_)
  ·have h2:=(boundB_iff _).1 wh
   refine WP.chk ⟨by omega,by omega⟩ fun _=>?_
   exact WP.ret (by rw [decide_eq_true_eq];omega)
  ·have h2:=(boundB_no _).1 wh
   exact WP.ret ⟨fun q=>(by cases q),fun q=>by exfalso;omega⟩
 ·have h1:=(boundB_no _).1 wh
  exact WP.ret ⟨fun q=>(by cases q),fun q=>by exfalso;omega⟩
theorem roverlapG_sp (a b:AInterval):WP (r03_Overlap a b) fun _=>True:=by
 unfold r03_Overlap
 refine WP.call (rrightG_sp a) fun x hx=>?_
 refine WP.bif (fun wh=>?_) fun _=>WP.ret trivial
 have h1:=hx.1 wh
 unfold rgtP at h1
 refine WP.call (rrightG_sp b) fun y hy=>?_
 refine WP.bif (fun wh=>?_) fun _=>WP.ret trivial
 have h2:=hy.1 wh
 unfold rgtP at h2
 refine WP.bif (fun _=>?_) fun _=>WP.ret trivial
 refine WP.bif (fun _=>?_) fun _=>WP.ret trivial
 refine WP.chk ⟨by omega,by omega⟩ fun _=>?_
 refine WP.bif (fun _=>?_) fun _=>WP.ret trivial
 refine WP.chk ⟨by omega,by omega⟩ fun _=>?_
 exact WP.ret trivial
theorem free_sp (used:List AInterval) (x:AInterval) (hl:used.length≤1000000):WP (r03_free used x) fun _=>True:=by
 unfold r03_free
 refine WP.loop (fun j=>0≤j∧j≤used.length) (fun j=>used.length- j.toNat) ⟨by omega,by omega⟩ ?_
 rintro again k ⟨a1,a2⟩ ih
 refine WP.bif (fun wh=>?_) (fun wh=>?_)<;>(try simp only [wpH] at wh)
 ·refine WP.chk ⟨a1,wh⟩ fun _=>?_
  refine WP.call (roverlapG_sp _ _) fun b _=>?_
  refine WP.bif (fun _=>WP.ret trivial) fun _=>?_
  refine WP.chk ⟨by omega,by omega⟩ fun _=>?_
  exact ih _ ⟨by omega,by omega⟩ (by omega)
 ·exact WP.ret trivial
theorem fit_sp (used:List AInterval) (from_ size al:Int) (hl:used.length≤1000000):WP (r03_Fit used from_ size al) fun r=>r.2=0→rgtP ⟨r.1,size⟩:=by
 unfold r03_Fit
 refine WP.call (rbound_sp _) ?_
 rintro _ rfl
 refine WP.bif (fun wh=>?_) (fun wh=>?_)
 ·exact WP.ret fun q=>by simp at q
 rw [Bool.not_eq_false'] at wh
 have hf:=(boundB_iff _).1 wh
 refine WP.call (rbound_sp _) ?_
 rintro _ rfl
 refine WP.bif (fun wh=>?_) (fun wh=>?_)
 ·exact WP.ret fun q=>by simp at q
 refine WP.call (power_sp _) ?_
 rintro _ rfl
 refine WP.bif (fun wh=>?_) (fun wh=>?_)
 ·exact WP.ret fun q=>by simp at q
 refine WP.loop (fun j=>(0≤j∧j≤used.length)∧∀t,0≤t→t<j→rgtP (atD used t)) (fun j=>used.length- j.toNat) ⟨⟨by omega,by omega⟩,fun t h1 h2=>by exfalso;omega⟩ ?_
 rintro again k ⟨⟨a1,a2⟩,a3⟩ ih
 refine WP.bif (fun wh=>?_) (fun wh=>?_)<;>(try simp only [wpH] at wh)
 ·have hkl:=wh
  refine WP.chk ⟨a1,wh⟩ fun _=>?_
  refine WP.call (rrightG_sp _) fun b hb=>?_
  refine WP.bif (fun wh=>?_) (fun wh=>?_)
  ·exact WP.ret fun q=>by simp at q
  refine WP.chk ⟨by omega,by omega⟩ fun _=>?_
  refine ih _ ⟨⟨by omega,by omega⟩,fun t h1 h2=>?_⟩ (by omega)
  by_cases ht:t=k
  ·rw [ht];exact hb.1 (by simpa using wh)
  ·exact a3 t h1 (by omega)
 ·refine WP.loop (fun j=>(-1≤j.2.2∧j.2.2≤used.length)∧(j.2.1=true→rgtP ⟨j.1,size⟩)) (fun j=>(used.length- j.2.2).toNat) ⟨⟨by simp,by simp⟩,fun q=>by cases q⟩ ?_
  rintro again2 ⟨best,found,t⟩ ⟨⟨b1,b2⟩,b3⟩ ih2
  dsimp only at b1 b2 b3 ih2 ⊢
  refine WP.bif (fun wh=>?_) (fun wh=>?_)<;>(try simp only [wpH] at wh)
  ·have htl:=wh
   have hgo:∀(b:Int) (fd:Bool),(fd=true→rgtP ⟨b,size⟩)→WP (M.chk (okI (t+1)) (again2 (b,fd,t+1))) fun r=>r.2=0→rgtP ⟨r.1,size⟩:=fun b fd hb=>
    WP.chk ⟨by omega,by omega⟩ fun _=>ih2 _ ⟨⟨by dsimp only;omega,by dsimp only;omega⟩,hb⟩ (by dsimp only;omega)
   refine WP.join (fun _=>True) ?_ ?_
   ·intro at_ _
    refine WP.call (rUp_sp _ _) fun x5 _=>?_
    refine WP.bif (fun _=>?_) (fun _=>hgo _ _ b3)
    refine WP.call (rrightG_sp _) fun x6 h6=>?_
    refine WP.bif (fun wh=>?_) (fun _=>hgo _ _ b3)
    have hr:=h6.1 wh
    refine WP.call (free_sp _ _ hl) fun x7 _=>?_
    refine WP.bif (fun _=>?_) (fun _=>hgo _ _ b3)
    refine WP.bif (fun _=>hgo _ _ fun _=>hr) (fun _=>?_)
    refine WP.bif (fun _=>hgo _ _ fun _=>hr) (fun _=>hgo _ _ b3)
   ·intro k1 hk1
    refine WP.bif (fun wh=>?_) (fun _=>hk1 _ trivial)
    rw [decide_eq_true_eq] at wh
    have hr:=a3 t wh (by omega)
    unfold rgtP at hr
    refine WP.chk ⟨wh,htl⟩ fun _=>?_
    refine WP.chk ⟨wh,htl⟩ fun _=>?_
    refine WP.chk ⟨by omega,by omega⟩ fun _=>?_
    exact hk1 _ trivial
  ·refine WP.bif (fun _=>?_) (fun wh=>?_)
   ·exact WP.ret fun q=>by simp at q
   ·exact WP.ret fun _=>b3 (by simpa using wh)
theorem assign23_sp (s:List ASlot) (g:List (List Int)) (from_:Int) (hg:∀x,inN x g.length→(atD g x).length≤1000000) (hgl:g.length≤1000000):WP (r23_Assign s g from_) fun r=>r.2=0→r.1.length=s.length∧∀k,inN k s.length→0≤atD r.1 k∧atD r.1 k≤2147483647:=by
 unfold r23_Assign
 by_cases hbig:512<s.length
 ·refine WP.call (R:=(·=3)) ?_ ?_
  ·unfold r03_Slots
   refine WP.bif (fun _=>WP.ret rfl) (fun wh=>?_)
   exfalso;simp only [decide_eq_false_iff_not] at wh;omega
  rintro _ rfl
  refine WP.bif (fun _=>WP.ret fun q=>by simp at q) (fun wh=>by simp at wh)
 refine WP.call (slots3_sp s (by omega)) ?_
 rintro _ rfl
 refine WP.bif (fun wh=>?_) (fun wh=>?_)
 ·rw [Bool.not_eq_true',decide_eq_false_iff_not] at wh
  exact WP.ret fun q=>(wh q).elim
 refine WP.call (R:=fun b=>b=true→(g.length:Int)=s.length) ?_ ?_
 ·unfold r18_Check
  refine WP.bif (fun _=>WP.ret fun q=>by cases q) (fun wh=>?_)
  rw [Bool.not_eq_false',decide_eq_true_eq] at wh
  have hgs:=wh
  refine WP.loop (fun j=>0≤j∧j≤s.length) (fun j=>s.length- j.toNat) ⟨by omega,by omega⟩ ?_
  rintro again x ⟨a1,a2⟩ ih
  refine WP.bif (fun wh=>?_) (fun wh=>?_)<;>(try simp only [wpH] at wh)
  ·have hxl:=wh
   have hgx:=hg x ⟨a1,by omega⟩
   refine WP.chk ⟨a1,by omega⟩ fun _=>?_
   refine WP.call (check4_sp _ (by omega)) ?_
   rintro _ rfl
   refine WP.bif (fun _=>WP.ret fun q=>by cases q) (fun wh=>?_)
   have hS:=ascS_iff.1 (by simpa using wh)
   refine WP.chk ⟨a1,by omega⟩ fun _=>?_
   refine WP.call (has_sp _ _ (by omega)) ?_
   rintro _ rfl
   refine WP.bif (fun _=>WP.ret fun q=>by cases q) (fun _=>?_)
   refine WP.loop (fun j=>0≤j∧j≤(atD g x).length) (fun j=>(atD g x).length- j.toNat) ⟨by omega,by omega⟩ ?_
   rintro again2 t ⟨b1,b2⟩ ih2
   refine WP.chk ⟨a1,by omega⟩ fun _=>?_
   refine WP.bif (fun wh=>?_) (fun wh=>?_)<;>(try simp only [wpH] at wh)
   ·have htl:=wh
    have hr:=hS.rng _ (atD_mem ⟨b1,wh⟩)
    refine WP.chk ⟨a1,by omega⟩ fun _=>?_
    refine WP.chk ⟨b1,htl⟩ fun _=>?_
    refine WP.bif (fun _=>WP.ret fun q=>by cases q) (fun wh=>?_)
    simp only [decide_eq_false_iff_not,Int.not_le] at wh
    have hgy:=hg (atD (atD g x) t) ⟨hr.1,by omega⟩
    refine WP.chk ⟨hr.1,by omega⟩ fun _=>?_
    refine WP.call (has_sp _ _ (by omega)) ?_
    rintro _ rfl
    refine WP.bif (fun _=>WP.ret fun q=>by cases q) (fun _=>?_)
    refine WP.chk ⟨by omega,by omega⟩ fun _=>?_
    exact ih2 _ ⟨by omega,by omega⟩ (by omega)
   ·refine WP.chk ⟨by omega,by omega⟩ fun _=>?_
    exact ih _ ⟨by omega,by omega⟩ (by omega)
  ·exact WP.ret fun _=>hgs
 intro b hb
 refine WP.bif (fun wh=>?_) (fun wh=>?_)
 ·exact WP.ret fun q=>by simp at q
 have hgs:=hb (by simpa using wh)
 refine WP.call (rbound_sp _) ?_
 rintro _ rfl
 refine WP.bif (fun wh=>?_) (fun wh=>?_)
 ·exact WP.ret fun q=>by simp at q
 refine WP.chk ⟨by omega,by omega⟩ fun _=>?_
 refine WP.chk ⟨by omega,by omega⟩ fun _=>?_
 refine WP.call (order23_sp s (by omega)) fun ord ⟨o1,o2⟩=>?_
 have hrep:∀c:Int,atD (repD (s.length:Int):List Int) c=0:=fun c=>by
  unfold atD repD
  rw [List.getD_eq_getElem?_getD,List.getElem?_replicate]
  split<;>rfl
 refine WP.loop (fun j=>(0≤j.1∧j.1≤ord.length)∧j.2.1.length=s.length∧j.2.2.length=s.length∧∀k,inN k s.length→0≤atD j.2.1 k∧atD j.2.1 k≤2147483647) (fun j=>ord.length- j.1.toNat) ⟨⟨by simp,by simp⟩,by dsimp only;rw [length_repD];omega,by dsimp only;rw [length_repD];omega,fun k _=>by dsimp only;rw [hrep];omega⟩ ?_
 rintro again ⟨i,off,done⟩ ⟨⟨a1,a2⟩,a3,a4,a5⟩ ih
 dsimp only at a1 a2 a3 a4 a5 ih ⊢
 refine WP.bif (fun wh=>?_) (fun wh=>?_)<;>(try simp only [wpH] at wh)
 ·have hil:=wh
  obtain ⟨x1,x2⟩:=o2 _ (atD_mem ⟨a1,wh⟩)
  have hgx:=hg (atD ord i) ⟨x1,by omega⟩
  refine WP.chk ⟨a1,wh⟩ fun _=>?_
  refine WP.loop (fun j=>(0≤j.1∧j.1≤s.length)∧(j.2.length:Int)≤j.1) (fun j=>s.length- j.1.toNat) ⟨⟨by simp,by simp⟩,by simp⟩ ?_
  rintro again2 ⟨y,used⟩ ⟨⟨b1,b2⟩,b3⟩ ih2
  dsimp only at b1 b2 b3 ih2 ⊢
  refine WP.bif (fun wh=>?_) (fun wh=>?_)<;>(try simp only [wpH] at wh)
  ·have hyl:=wh
   have hgo:WP (M.chk (okI (y+1)) (again2 (y+1,used))) _:=WP.chk ⟨by omega,by omega⟩ fun _=>ih2 _ ⟨⟨by dsimp only;omega,by dsimp only;omega⟩,by dsimp only;omega⟩ (by dsimp only;omega)
   refine WP.chk ⟨b1,by omega⟩ fun _=>?_
   refine WP.bif (fun _=>?_) (fun _=>hgo)
   refine WP.chk ⟨x1,by omega⟩ fun _=>?_
   refine WP.call (has_sp _ _ (by omega)) ?_
   rintro _ rfl
   refine WP.bif (fun _=>?_) (fun _=>hgo)
   refine WP.chk ⟨b1,by omega⟩ fun _=>?_
   refine WP.chk ⟨b1,hyl⟩ fun _=>?_
   refine WP.chk (by simp only [List.length_singleton];omega) fun _=>?_
   refine WP.chk ⟨by omega,by omega⟩ fun _=>?_
   exact ih2 _ ⟨⟨by dsimp only;omega,by dsimp only;omega⟩,by simp only [List.length_append,List.length_singleton];omega⟩ (by dsimp only;omega)
  ·refine WP.chk ⟨x1,x2⟩ fun _=>?_
   refine WP.chk ⟨x1,x2⟩ fun _=>?_
   refine WP.call (fit_sp _ _ _ _ (by omega)) fun x6 h6=>?_
   refine WP.bif (fun wh=>?_) (fun wh=>?_)
   ·rw [Bool.not_eq_true',decide_eq_false_iff_not] at wh
    exact WP.ret fun q=>(wh q).elim
   rw [Bool.not_eq_false',decide_eq_true_eq] at wh
   have hr:=h6 wh
   unfold rgtP at hr
   dsimp only at hr
   refine WP.chk ⟨x1,by omega⟩ fun _=>?_
   refine WP.chk ⟨x1,by omega⟩ fun _=>?_
   refine WP.chk ⟨by omega,by omega⟩ fun _=>?_
   refine ih _ ⟨⟨by dsimp only;omega,by dsimp only;omega⟩,by dsimp only;rw [length_setD,a3],by dsimp only;rw [length_setD,a4],fun k hk=>?_⟩ (by dsimp only;omega)
   dsimp only
   rw [atD_setD ⟨x1,by omega⟩ hk.1]
   split
   ·omega
   ·exact a5 k hk
 ·exact WP.ret fun _=>⟨a3,a5⟩
def okS (s:ASlot):Prop:=0≤s.Size∧s.Size≤16∧powB s.Align=true
theorem rightS.okS {s:ASlot} (h:rightS s):okS s:=by
 have h1:=h.slotB
 unfold Go.Proofs.YtgbkhjllbgmdcaaGreat.Q.slotB at h1
 rw [Bool.and_eq_true] at h1
 refine ⟨?_,?_,h1.2⟩<;>(have h2:=h1.1;unfold sizeB at h2;rw [decide_eq_true_eq] at h2;omega)
def offF (p:List Int × Int) (s:ASlot):List Int × Int:=(p.1++[upZ p.2 s.Align],upZ p.2 s.Align+s.Size)
def offL (e:Int) (l:List ASlot):List Int × Int:=l.foldl offF ([],e)
theorem offL_snoc (e:Int) (l:List ASlot) (s:ASlot):offL e (l++[s])=offF (offL e l) s:=by
 unfold offL
 rw [List.foldl_append]
 rfl
theorem off_mono {l:List ASlot}:∀(p:List Int × Int),(∀s∈l,okS s)→p.2≤(l.foldl offF p).2:=by
 induction l with
 | nil=>intro p _;exact Int.le_refl _
 | cons s r ih=>
   intro p h
   rw [List.foldl_cons]
   have h1:=ih (offF p s) fun x hx=>h x (List.mem_cons_of_mem _ hx)
   have h2:=h s List.mem_cons_self
   have h3:=upZ_le (n:=p.2) (powB_bd h2.2.2).1
   have h4:(offF p s).2=upZ p.2 s.Align+s.Size:=rfl
   have h5:=h2.1
   omega
theorem offL_take {e:Int} {l:List ASlot} (h:∀s∈l,okS s) (k:Nat):(offL e (l.take k)).2≤(offL e l).2:=by
 have h1:=off_mono (l:=l.drop k) (offL e (l.take k)) fun s hs=>h s (List.mem_of_mem_drop hs)
 have h2:offL e l=(l.drop k).foldl offF (offL e (l.take k)):=by
  unfold offL
  rw [←List.foldl_append,List.take_append_drop]
 rw [h2];exact h1
theorem offL_len (e:Int) (l:List ASlot):(offL e l).1.length=l.length:=by
 have key:∀(l:List ASlot) (p:List Int × Int),(l.foldl offF p).1.length=p.1.length+l.length:=by
  intro l
  induction l with
  | nil=>intro p;rfl
  | cons s r ih=>intro p;rw [List.foldl_cons,ih];simp [offF];omega
 unfold offL
 rw [key];simp
def baseR (args:Int) (l:List ASlot) (al:Int):ALayout × Int:=if 2147483519<upZ (offL args l).2 al then (⟨0,0,[]⟩,9) else (⟨args,upZ (offL args l).2 al,(offL args l).1⟩,0)
theorem baseR_err {args al:Int} {l:List ASlot} (hal:powB al=true) (h:2147483519<(offL args l).2):baseR args l al=(⟨0,0,[]⟩,9):=by
 have:=upZ_le (n:=(offL args l).2) (powB_bd hal).1
 unfold baseR
 rw [if_pos (by omega)]
section
variable {p:AProgram} {i al args:Int}
theorem sized_sp (y:ALayout) (e:Int) (h0:0≤e) (h1:e≤2147483647) (hal:powB al=true):WP (pack_sized y e al) (·=if 2147483519<upZ e al then (⟨0,0,[]⟩,9) else (⟨y.Args,upZ e al,y.Off⟩,0)):=by
 have hb:boundB e=true:=(boundB_iff e).2 ⟨h0,h1⟩
 have hle:=upZ_le (n:=e) (powB_bd hal).1
 unfold pack_sized
 refine WP.call (eUp_sp _ _) ?_
 rintro _ rfl
 unfold upQ
 rw [hb,hal]
 simp only [Bool.and_self,if_true]
 generalize upZ e al=z at*
 refine WP.join (fun x=>x=if 2147483519<z then 9 else 0) ?_ ?_
 ·rintro _ rfl
  by_cases hz:2147483519<z
  ·rw [if_pos hz,if_pos hz]
   refine WP.bif (fun _=>WP.ret rfl) (fun wh=>by simp at wh)
  ·rw [if_neg hz,if_neg hz,if_neg (by omega)]
   refine WP.bif (fun wh=>by simp at wh) (fun _=>WP.ret rfl)
 ·intro k hk
  by_cases hz:2147483647<z
  ·rw [if_pos hz]
   refine WP.bif (fun wh=>by simp at wh) (fun _=>hk _ (by rw [if_pos (by omega)]))
  ·rw [if_neg hz]
   refine WP.bif (fun _=>?_) (fun wh=>by simp at wh)
   refine WP.call (eAdd_sp _ _) ?_
   rintro _ rfl
   refine hk _ ?_
   unfold addQ
   rw [(boundB_iff z).2 ⟨by omega,by omega⟩,show boundB 128=true from rfl]
   simp only [Bool.and_self,if_true]
   by_cases hz2:2147483519<z
   ·rw [if_pos (by omega),if_pos hz2]
   ·rw [if_neg (by omega),if_neg hz2]
theorem baseline_sp (hi:inN i p.Funcs.length) (ha:WP (pack_Args p i) (·=args)) (h0:0≤args) (h1:args≤2147483647) (hs:∀s∈(atD p.Funcs i).Slots,okS s) (hl:(atD p.Funcs i).Slots.length≤1000000) (hal:powB al=true):WP (pack_Baseline p i al) (·=baseR args (atD p.Funcs i).Slots al):=by
 unfold pack_Baseline
 refine WP.call ha ?_
 intro x hx
 rw [hx]
 clear hx x
 refine WP.chk hi fun _=>?_
 generalize (atD p.Funcs i).Slots=l at*
 refine WP.loop (fun j=>(0≤j.2.1∧j.2.1≤l.length)∧(0≤j.1∧j.1≤2147483647)∧(j.2.2,j.1)=offL args (l.take j.2.1.toNat)) (fun j=>l.length- j.2.1.toNat) ⟨⟨by simp,by simp⟩,⟨h0,h1⟩,rfl⟩ ?_
 rintro again ⟨e,k,own⟩ ⟨⟨a1,a2⟩,⟨a3,a4⟩,a5⟩ ih
 dsimp only at a1 a2 a3 a4 a5 ih ⊢
 have hown:own.length=(l.take k.toNat).length:=by rw [←offL_len args,←a5]
 have hown2:own.length≤l.length:=by rw [hown,List.length_take];omega
 have he:(offL args (l.take k.toNat)).2=e:=by rw [←a5]
 refine WP.bif (fun wh=>?_) (fun wh=>?_)<;>(try simp only [wpH] at wh)
 ·have hkl:=wh
  have hm:=atD_mem (l:=l) (i:=k) ⟨a1,wh⟩
  obtain ⟨s1,s2,s3⟩:=hs _ hm
  have htk:=take_atD (l:=l) (k:=k) ⟨a1,wh⟩
  have hnx:(offL args (l.take (k+1).toNat))=(own++[upZ e (atD l k).Align],upZ e (atD l k).Align+(atD l k).Size):=by
   rw [htk,offL_snoc,←a5];rfl
  have hmx:=offL_take (e:=args) hs (k+1).toNat
  rw [hnx] at hmx
  dsimp only at hmx
  have hle:=upZ_le (n:=e) (powB_bd s3).1
  generalize atD l k=s at*
  refine WP.chk ⟨a1,wh⟩ fun _=>?_
  refine WP.call (eUp_sp _ _) ?_
  rintro _ rfl
  unfold upQ
  rw [(boundB_iff e).2 ⟨a3,a4⟩,s3]
  simp only [Bool.and_self,if_true]
  generalize upZ e s.Align=z at*
  refine WP.join (fun j=>(j.2=0∧j.1=z+s.Size∧z+s.Size≤2147483647∧z≤2147483647)∨(j.2≠0∧2147483647<z+s.Size)) ?_ ?_
  ·rintro ⟨e2,x⟩ hj
   dsimp only at hj ⊢
   refine WP.bif (fun wh=>?_) (fun wh=>?_)<;>(try simp only [wpH] at wh)
   ·exact WP.ret (baseR_err hal (by omega)).symm
   ·obtain ⟨_,rfl,q1,q2⟩:=hj.resolve_right fun q=>q.1 wh
    refine WP.chk (by simp only [List.length_singleton];omega) fun _=>?_
    refine WP.chk ⟨by omega,by omega⟩ fun _=>?_
    refine ih _ ⟨⟨by dsimp only;omega,by dsimp only;omega⟩,⟨by dsimp only;omega,by dsimp only;omega⟩,?_⟩ (by dsimp only;omega)
    dsimp only
    rw [hnx,if_neg (by omega)]
  ·intro k1 hk1
   by_cases hz:2147483647<z
   ·rw [if_pos hz]
    refine WP.bif (fun wh=>by simp at wh) (fun _=>hk1 _ (.inr ⟨by simp,by omega⟩))
   ·rw [if_neg hz]
    refine WP.bif (fun _=>?_) (fun wh=>by simp at wh)
    refine WP.call (eAdd_sp _ _) ?_
    rintro _ rfl
    unfold addQ
    rw [(boundB_iff z).2 ⟨by omega,by omega⟩,(boundB_iff s.Size).2 ⟨by omega,by omega⟩]
    simp only [Bool.and_self,if_true]
    by_cases hz2:2147483647<z+s.Size
    ·rw [if_pos hz2];exact hk1 _ (.inr ⟨by simp,hz2⟩)
    ·rw [if_neg hz2];exact hk1 _ (.inl ⟨rfl,rfl,by omega,by omega⟩)
 ·rw [take_all (by omega)] at a5
  refine WP.call (sized_sp _ _ a3 a4 hal) ?_
  rintro _ rfl
  refine WP.ret ?_
  unfold baseR
  rw [←a5]
theorem rbaseline_sp (hi:inN i p.Funcs.length) (ha:WP (r24_Args p i) (·=args)) (h0:0≤args) (h1:args≤2147483647) (hs:∀s∈(atD p.Funcs i).Slots,okS s) (hl:(atD p.Funcs i).Slots.length≤1000000) (hal:powB al=true):WP (r24_Baseline p i al) (·=baseR args (atD p.Funcs i).Slots al):=by
 unfold r24_Baseline
 refine WP.call ha ?_
 intro x hx
 rw [hx]
 clear hx x
 refine WP.chk hi fun _=>?_
 generalize (atD p.Funcs i).Slots=l at*
 refine WP.loop (fun j=>(0≤j.2.1∧j.2.1≤l.length)∧(0≤j.1∧j.1≤2147483647)∧(j.2.2,j.1)=offL args (l.take j.2.1.toNat)) (fun j=>l.length- j.2.1.toNat) ⟨⟨by simp,by simp⟩,⟨h0,h1⟩,rfl⟩ ?_
 rintro again ⟨e,k,own⟩ ⟨⟨a1,a2⟩,⟨a3,a4⟩,a5⟩ ih
 dsimp only at a1 a2 a3 a4 a5 ih ⊢
 have hown:own.length=(l.take k.toNat).length:=by rw [←offL_len args,←a5]
 have hown2:own.length≤l.length:=by rw [hown,List.length_take];omega
 have he:(offL args (l.take k.toNat)).2=e:=by rw [←a5]
 refine WP.bif (fun wh=>?_) (fun wh=>?_)<;>(try simp only [wpH] at wh)
 ·have hkl:=wh
  have hm:=atD_mem (l:=l) (i:=k) ⟨a1,wh⟩
  obtain ⟨s1,s2,s3⟩:=hs _ hm
  have htk:=take_atD (l:=l) (k:=k) ⟨a1,wh⟩
  have hnx:(offL args (l.take (k+1).toNat))=(own++[upZ e (atD l k).Align],upZ e (atD l k).Align+(atD l k).Size):=by
   rw [htk,offL_snoc,←a5];rfl
  have hmx:=offL_take (e:=args) hs (k+1).toNat
  rw [hnx] at hmx
  dsimp only at hmx
  have hle:=upZ_le (n:=e) (powB_bd s3).1
  generalize atD l k=s at*
  refine WP.chk ⟨a1,wh⟩ fun _=>?_
  refine WP.call (rUp_sp _ _) ?_
  rintro _ rfl
  unfold upQ
  rw [(boundB_iff e).2 ⟨a3,a4⟩,s3]
  simp only [Bool.and_self,if_true]
  generalize upZ e s.Align=z at*
  by_cases hz:2147483647<z
  ·rw [if_pos hz]
   refine WP.bif (fun _=>?_) (fun wh=>by simp at wh)
   exact WP.ret (baseR_err hal (by omega)).symm
  ·rw [if_neg hz]
   refine WP.bif (fun wh=>by simp at wh) (fun _=>?_)
   dsimp only
   refine WP.chk ⟨a1,hkl⟩ fun _=>?_
   refine WP.chk ⟨by omega,by omega⟩ fun _=>?_
   refine WP.bif (fun wh=>?_) (fun wh=>?_)<;>(try simp only [wpH] at wh)
   ·exact WP.ret (baseR_err hal (by omega)).symm
   ·refine WP.chk (by omega) fun _=>?_
    refine WP.chk (by simp only [List.length_singleton];omega) fun _=>?_
    refine WP.chk ⟨a1,hkl⟩ fun _=>?_
    refine WP.chk ⟨by omega,by omega⟩ fun _=>?_
    refine WP.chk ⟨by omega,by omega⟩ fun _=>?_
    refine ih _ ⟨⟨by dsimp only;omega,by dsimp only;omega⟩,⟨by dsimp only;omega,by dsimp only;omega⟩,?_⟩ (by dsimp only;omega)
    dsimp only
    rw [hnx]
 ·rw [take_all (by omega)] at a5
  have hle:=upZ_le (n:=e) (powB_bd hal).1
  refine WP.call (rUp_sp _ _) ?_
  rintro _ rfl
  unfold upQ baseR
  rw [(boundB_iff e).2 ⟨a3,a4⟩,hal,←a5]
  simp only [Bool.and_self,if_true]
  generalize upZ e al=z at*
  by_cases hz:2147483647<z
  ·rw [if_pos hz]
   refine WP.bif (fun _=>?_) (fun wh=>by simp at wh)
   exact WP.ret (by rw [if_pos (by omega)])
  ·rw [if_neg hz]
   refine WP.bif (fun wh=>by simp at wh) (fun _=>?_)
   refine WP.bif (fun wh=>?_) (fun wh=>?_)<;>(try simp only [wpH] at wh)
   ·exact WP.ret (by rw [if_pos wh])
   ·exact WP.ret (by rw [if_neg (Int.not_lt.2 wh)])
theorem rargs24_sp (p:AProgram) (i:Int) (hp:WfP p) (hi:inN i p.Funcs.length):WP (r24_Args p i) (·=16*argsN p (atD p.Funcs i).Code):=by
 unfold r24_Args
 obtain ⟨hi1,hi2⟩:=hi
 have hc:=(hp.func i hi1 hi2).code
 (repeat' (first| (refine WP.chk (by (first| omega| (simp only [wpN] at*;omega))) fun _=>?_)| ((refine WP.bif (fun wh=>?_) (fun wh=>?_))<;>(try simp only [wpH] at wh)<;>(try (exfalso;omega)))))
 generalize hf:atD p.Funcs i=f at*
 have hT:∀k:Int,0≤argsN p (f.Code.take k.toNat)∧argsN p (f.Code.take k.toNat)≤8:=fun k=>by
  have:=argsN_R hp ⟨hi1,hi2⟩ (l:=f.Code.take k.toNat) fun x hx=>by rw [hf];exact List.take_subset _ _ hx
  omega
 refine WP.loop (fun j=>0≤j.2∧j.2≤f.Code.length∧j.1=argsN p (f.Code.take j.2.toNat)) (fun j=>f.Code.length- j.2.toNat) ⟨by simp,by simp,rfl⟩ ?_
 rintro again ⟨n,k⟩ ⟨h1,h2,h3⟩ ih
 dsimp only at h1 h2 h3 ih ⊢
 have hTk:=hT k
 rw [←h3] at hTk
 refine WP.bif (fun wh=>?_) (fun wh=>?_)<;>(try simp only [wpH] at wh)
 ·have hN:=(hp.at_ (i:=i) (k:=k) ⟨hi1,hi2⟩ ⟨h1,by rw [hf];exact wh⟩).need hp hi1
  rw [hf] at hN
  have hs:∀m,needA p (atD f.Code k)=m→max n m=argsN p (f.Code.take (k+1).toNat):=fun m hm=>by
   rw [take_atD ⟨h1,wh⟩,argsN_snoc,←h3,hm]
  generalize hx:atD f.Code k=x at*
  (repeat' (first| (refine WP.chk (by (first| omega| (simp only [wpN] at*;omega))) fun _=>?_)| ((refine WP.bif (fun wh=>?_) (fun wh=>?_))<;>(try simp only [wpH] at wh)<;>(try (exfalso;omega)))))
  ·exact ih _ ⟨by dsimp only;omega,by dsimp only;omega,hs _ (by unfold needA;rw [if_pos (by assumption)])⟩ (by dsimp only;omega)
  ·exact ih _ ⟨by dsimp only;omega,by dsimp only;omega,hs _ (by unfold needA;rw [if_neg (by assumption),if_pos (by assumption)])⟩ (by dsimp only;omega)
  ·refine ih _ ⟨by dsimp only;omega,by dsimp only;omega,?_⟩ (by dsimp only;omega)
   have:=hs 0 (by unfold needA;rw [if_neg (by assumption),if_neg (by assumption)])
   dsimp only
   omega
 ·(repeat' (first| (refine WP.chk (by (first| omega| (simp only [wpN] at*;omega))) fun _=>?_)| ((refine WP.bif (fun wh=>?_) (fun wh=>?_))<;>(try simp only [wpH] at wh)<;>(try (exfalso;omega)))))
  refine WP.ret ?_
  rw [h3,take_all (by omega),Int.mul_comm]
theorem baseR_small {l:List ASlot} (h0:0≤args) (h1:args≤1000) (hl:l.length≤6) (hs:∀s∈l,rightS s) (hal:powB al=true) (ha2:al≤1000):baseR args l al=(⟨args,upZ (offL args l).2 al,(offL args l).1⟩,0)∧args≤(offL args l).2∧(offL args l).2≤args+80*l.length∧upZ (offL args l).2 al≤3000:=by
 have key:∀(l:List ASlot) (q:List Int × Int),(∀s∈l,rightS s)→(l.foldl offF q).2≤q.2+80*l.length:=by
  intro l
  induction l with
  | nil=>intro q _;simp
  | cons s r ih=>
    intro q h
    rw [List.foldl_cons]
    have h1:=ih (offF q s) fun x hx=>h x (List.mem_cons_of_mem _ hx)
    have h2:=h s List.mem_cons_self
    have h3:=upZ_lt (n:=q.2) (powB_bd h2.okS.2.2).1
    have h4:(offF q s).2=upZ q.2 s.Align+s.Size:=rfl
    have h5:s.Align≤64∧s.Size≤16:=by unfold rightS at h2;omega
    rw [List.length_cons]
    omega
 have q1:=key l ([],args) hs
 have q2:=off_mono (l:=l) ([],args) fun s h=>(hs s h).okS
 have q3:=upZ_lt (n:=(offL args l).2) (powB_bd hal).1
 change (offL args l).2≤args+_ at q1
 change args≤(offL args l).2 at q2
 refine ⟨?_,q2,q1,by omega⟩
 unfold baseR
 rw [if_neg (by omega)]
end
theorem alP_pow {p:AProgram} (hp:WfP p) {al:Int} (h:al=alignP p∨al=alignP p*2∨al=alignP p*4):powB al=true∧al≤256∧1≤al:=by
 have h1:=(alignP_R hp).1
 unfold alR at h1
 have h2:al=16∨al=32∨al=64∨al=128∨al=256:=by omega
 refine ⟨?_,by omega,by omega⟩
 rcases h2 with h| h| h| h| h<;>subst h<;>decide
section
variable {l:List ASlot} {e:Int}
theorem offL_at (k:Int) (hk:inN k l.length):atD (offL e l).1 k=upZ (offL e (l.take k.toNat)).2 (atD l k).Align∧(offL e (l.take (k+1).toNat)).2=atD (offL e l).1 k+(atD l k).Size:=by
 obtain ⟨h1,h2⟩:=hk
 have hpre:∀(r:List ASlot) (q:List Int × Int),∃t,(r.foldl offF q).1=q.1++t:=by
  intro r
  induction r with
  | nil=>intro q;exact ⟨[],by simp⟩
  | cons s r ih=>
    intro q
    obtain ⟨t,ht⟩:=ih (offF q s)
    refine ⟨[upZ q.2 s.Align]++t,?_⟩
    rw [List.foldl_cons,ht]
    simp [offF]
 have htk:l.take (k+1).toNat=l.take k.toNat++[atD l k]:=take_atD ⟨h1,h2⟩
 have hq:offL e (l.take (k+1).toNat)=offF (offL e (l.take k.toNat)) (atD l k):=by rw [htk,offL_snoc]
 have hd:offL e l=(l.drop (k+1).toNat).foldl offF (offL e (l.take (k+1).toNat)):=by
  unfold offL
  rw [←List.foldl_append,List.take_append_drop]
 obtain ⟨t,ht⟩:=hpre (l.drop (k+1).toNat) (offL e (l.take (k+1).toNat))
 have hlen:(offL e (l.take k.toNat)).1.length=k.toNat:=by rw [offL_len,List.length_take];omega
 have hat:atD (offL e l).1 k=upZ (offL e (l.take k.toNat)).2 (atD l k).Align:=by
  rw [hd,ht,hq]
  unfold offF
  dsimp only
  rw [atD_append_left (by simp only [List.length_append,List.length_singleton];omega),atD_last (by omega)]
 refine ⟨hat,?_⟩
 rw [hat,hq]
 rfl
theorem offL_mono2 (hs:∀s∈l,okS s) {j k:Nat} (h:j≤k):(offL e (l.take j)).2≤(offL e (l.take k)).2:=by
 have:=offL_take (e:=e) (l:=l.take k) (fun s h=>hs s (List.mem_of_mem_take h)) j
 rw [List.take_take,Nat.min_eq_left h] at this
 exact this
theorem off_facts (hs:∀s∈l,okS s) (k:Int) (hk:inN k l.length):e≤atD (offL e l).1 k∧0≤(atD l k).Size∧(atD l k).Size≤16∧atD (offL e l).1 k+(atD l k).Size≤(offL e l).2∧atD (offL e l).1 k % (atD l k).Align=0∧1≤(atD l k).Align∧(∀j,0≤j→j<k→atD (offL e l).1 j+(atD l j).Size≤atD (offL e l).1 k):=by
 obtain ⟨h1,h2⟩:=offL_at (e:=e) k hk
 obtain ⟨s1,s2,s3⟩:=hs _ (atD_mem hk)
 have h3:=upZ_le (n:=(offL e (l.take k.toNat)).2) (powB_bd s3).1
 have h4:=off_mono (l:=l.take k.toNat) ([],e) fun s h=>hs s (List.mem_of_mem_take h)
 change e≤(offL e (l.take k.toNat)).2 at h4
 have h5:=offL_take (e:=e) hs (k+1).toNat
 refine ⟨by omega,s1,s2,by omega,?_,(powB_bd s3).1,fun j hj1 hj2=>?_⟩
 ·rw [h1];exact upZ_mod _ _
 ·obtain ⟨h6,h7⟩:=offL_at (e:=e) (l:=l) j ⟨hj1,by have:=hk.2;omega⟩
  have h8:=offL_mono2 (e:=e) hs (j:=(j+1).toNat) (k:=k.toNat) (by omega)
  omega
end
theorem inside_sp (a:AInterval) (m:Int) (h0:0≤a.Off) (h1:0≤a.Size) (h2:a.Off+a.Size≤2147483647):WP (extent_Inside a m) (·=decide (a.Off+a.Size≤m)):=by
 unfold extent_Inside extent_right
 refine WP.call (R:=(·=true)) ?_ ?_
 ·refine WP.call (ebound_sp _) ?_
  rintro _ rfl
  rw [(boundB_iff a.Off).2 ⟨h0,by omega⟩]
  refine WP.bif (fun _=>?_) (fun wh=>by cases wh)
  refine WP.call (ebound_sp _) ?_
  rintro _ rfl
  rw [(boundB_iff a.Size).2 ⟨h1,by omega⟩]
  refine WP.bif (fun _=>?_) (fun wh=>by cases wh)
  refine WP.chk ⟨by omega,by omega⟩ fun _=>?_
  exact WP.ret (by simp;omega)
 rintro _ rfl
 refine WP.bif (fun _=>?_) (fun wh=>by cases wh)
 refine WP.chk ⟨by omega,by omega⟩ fun _=>?_
 exact WP.ret rfl
theorem rinside_sp (a:AInterval) (m:Int) (h0:0≤a.Off) (h1:0≤a.Size) (h2:a.Off+a.Size≤2147483647):WP (r03_Inside a m) (·=decide (a.Off+a.Size≤m)):=by
 unfold r03_Inside r03_Right
 refine WP.call (R:=(·=true)) ?_ ?_
 ·refine WP.call (rbound_sp _) ?_
  rintro _ rfl
  rw [(boundB_iff a.Off).2 ⟨h0,by omega⟩]
  refine WP.bif (fun _=>?_) (fun wh=>by cases wh)
  refine WP.call (rbound_sp _) ?_
  rintro _ rfl
  rw [(boundB_iff a.Size).2 ⟨h1,by omega⟩]
  refine WP.bif (fun _=>?_) (fun wh=>by cases wh)
  refine WP.chk ⟨by omega,by omega⟩ fun _=>?_
  exact WP.ret (by simp;omega)
 rintro _ rfl
 refine WP.bif (fun _=>?_) (fun wh=>by cases wh)
 refine WP.chk ⟨by omega,by omega⟩ fun _=>?_
 exact WP.ret rfl
def mrg (u v x:Int):Int:=if x=u∨x=v then min u v else x
theorem ValidP.merge {f:AFunc} {t t':List Int} {a b:Int} (h:ValidP f t) (hl:t'.length=t.length) (ha:inN a t.length) (hb:inN b t.length) (hz:(atD f.Slots a).Size=(atD f.Slots b).Size) (ht:∀s,inN s t.length→atD t' s=mrg (atD t a) (atD t b) (atD t s)):ValidP f t':=by
 obtain ⟨h1,h2⟩:=h
 obtain ⟨⟨a1,a2⟩,a3,a4⟩:=h2 a ha
 obtain ⟨⟨b1,b2⟩,b3,b4⟩:=h2 b hb
 refine ⟨by omega,fun s hs=>?_⟩
 rw [hl] at hs ⊢
 obtain ⟨⟨s1,s2⟩,s3,s4⟩:=h2 s hs
 have hc:min (atD t a) (atD t b)=atD t a∨min (atD t a) (atD t b)=atD t b:=by omega
 have hci:inN (min (atD t a) (atD t b)) t.length:=⟨by omega,by omega⟩
 have hcc:atD t (min (atD t a) (atD t b))=min (atD t a) (atD t b):=by
  rcases hc with q| q<;>rw [q]<;>assumption
 rw [ht s hs]
 unfold mrg
 split
 ·rename_i h
  refine ⟨hci,?_,?_⟩
  ·have e1:(atD f.Slots (min (atD t a) (atD t b))).Size=(atD f.Slots a).Size:=by
    rcases hc with q| q<;>rw [q]
    ·exact a3
    ·rw [b3,hz]
   have e2:(atD f.Slots (atD t s)).Size=(atD f.Slots a).Size:=by
    rcases h with q| q<;>rw [q]
    ·exact a3
    ·rw [b3,hz]
   rw [e1,←e2,s3]
  ·rw [ht _ hci,hcc]
   unfold mrg
   split
   ·rfl
   ·rfl
 ·rename_i h
  refine ⟨⟨s1,s2⟩,s3,?_⟩
  rw [ht _ ⟨s1,s2⟩,s4]
  unfold mrg
  rw [if_neg h]
section
variable {n i par:Int} {f:AFunc} {g:List (List Int)}
theorem classes19v_sp (hf:WfF n i par f) (hg:f.Slots.length≤g.length) (hgl:∀s,inN s g.length→(atD g s).length≤1000000):WP (r19_Classes f g) (ValidP f):=by
 have hc:=hf.code
 have hsl:=hf.slots
 unfold r19_Classes
 refine WP.loop (fun j=>(0≤j.1∧j.1≤f.Slots.length)∧(j.2.length:Int)=j.1∧∀s,inN s j.2.length→atD j.2 s=s) (fun j=>f.Slots.length- j.1.toNat) ⟨⟨by simp,by simp⟩,by simp,fun s hs=>by have:=hs.1;have:=hs.2;simp at this;omega⟩ ?_
 rintro again1 ⟨s,to⟩ ⟨⟨a1,a2⟩,a3,a4⟩ ih1
 dsimp only at a1 a2 a3 a4 ih1 ⊢
 refine WP.bif (fun wh=>?_) (fun wh=>?_)<;>(try simp only [wpH] at wh)
 ·have hlt:=wh
  refine WP.chk (by simp only [List.length_singleton];omega) fun _=>?_
  refine WP.chk ⟨by omega,by omega⟩ fun _=>?_
  refine ih1 _ ⟨⟨by dsimp only;omega,by dsimp only;omega⟩,by simp only [List.length_append,List.length_singleton];omega,fun t ht=>?_⟩ (by dsimp only;omega)
  dsimp only at ht ⊢
  obtain ⟨h1,h2⟩:=ht
  simp only [List.length_append,List.length_singleton] at h2
  by_cases h:t=to.length
  ·rw [atD_last h];omega
  ·rw [atD_append_left (by omega)];exact a4 t ⟨h1,by omega⟩
 ·refine WP.call (moves18_sp hf) fun mv ⟨m1,m2⟩=>?_
  refine WP.loop (fun j=>(0≤j.1∧j.1≤mv.length)∧ValidP f j.2) (fun j=>mv.length- j.1.toNat) ⟨⟨by simp,by simp⟩,by dsimp only;omega,fun t ht=>?_⟩ ?_
  ·dsimp only at ht ⊢
   have e:=a4 t ht
   rw [e,e]
   exact ⟨ht,rfl,rfl⟩
  rintro again2 ⟨k,t2⟩ ⟨⟨b1,b2⟩,b3⟩ ih2
  dsimp only at b1 b2 b3 ih2 ⊢
  have hlen:=b3.1
  refine WP.bif (fun wh=>?_) (fun wh=>?_)<;>(try simp only [wpH] at wh)
  ·have hkl:=wh
   obtain ⟨kk,hkk,h17,hmk,⟨p1,p2⟩,⟨p3,p4⟩,_⟩:=m2 _ (atD_mem ⟨b1,wh⟩)
   have hsz:(atD f.Slots (atD mv k).e0).Size=(atD f.Slots (atD mv k).e1).Size:=by
    rw [hmk]
    have hI:=hf.at_ hkk
    generalize atD f.Code kk=x at*
    cases hI<;>first| assumption| (simp at h17;done)| (exfalso;dsimp only at h17;omega)
   clear hmk
   have e0:=(b3.2 _ ⟨p1,by omega⟩).1
   have e1:=(b3.2 _ ⟨p3,by omega⟩).1
   generalize hm:atD mv k=m at*
   refine WP.chk ⟨by omega,by omega⟩ fun _=>?_
   refine WP.chk ⟨by omega,by omega⟩ fun _=>?_
   refine WP.chk ⟨by omega,by omega⟩ fun _=>?_
   refine WP.chk ⟨by omega,by omega⟩ fun _=>?_
   refine WP.bif (fun wh=>?_) (fun wh=>?_)<;>(try simp only [wpH] at wh)
   ·refine WP.chk ⟨by omega,by omega⟩ fun _=>?_
    exact ih2 _ ⟨⟨by dsimp only;omega,by dsimp only;omega⟩,b3⟩ (by dsimp only;omega)
   refine WP.call (apart_sp g t2 _ _ (by omega) (by omega) hgl) fun x2 hx2=>?_
   refine WP.bif (fun wh=>?_) (fun wh=>?_)<;>(try simp only [wpH] at wh)
   ·refine WP.chk ⟨by omega,by omega⟩ fun _=>?_
    exact ih2 _ ⟨⟨by dsimp only;omega,by dsimp only;omega⟩,b3⟩ (by dsimp only;omega)
   refine WP.loop (fun j=>(0≤j.1∧j.1≤t2.length)∧j.2.length=t2.length∧(∀s,0≤s→s<j.1→atD j.2 s=mrg (atD t2 m.e0) (atD t2 m.e1) (atD t2 s))∧∀s,j.1≤s→s<t2.length→atD j.2 s=atD t2 s) (fun j=>t2.length- j.1.toNat) ⟨⟨by simp,by simp⟩,rfl,fun s h1 h2=>by exfalso;dsimp only at h2;omega,fun _ _ _=>rfl⟩ ?_
   rintro again3 ⟨q,t3⟩ ⟨⟨d1,d2⟩,d3,d4,d5⟩ ih3
   dsimp only at d1 d2 d3 d4 d5 ih3 ⊢
   refine WP.bif (fun wh=>?_) (fun wh=>?_)<;>(try simp only [wpH] at wh)
   ·have hql:=wh
    have e5:=d5 q (Int.le_refl _) (by omega)
    have hgo:(atD t3 q=atD t2 m.e0∨atD t3 q=atD t2 m.e1)→WP (again3 (q+1,setD t3 q (min (atD t2 m.e0) (atD t2 m.e1)))) (ValidP f):=fun hh=>by
     refine ih3 _ ⟨⟨by dsimp only;omega,by dsimp only;omega⟩,by dsimp only;rw [length_setD,d3],fun s h1 h2=>?_,fun s h1 h2=>?_⟩ (by dsimp only;omega)
     ·dsimp only at h2 ⊢
      rw [atD_setD ⟨d1,by omega⟩ h1]
      split
      ·rename_i hs;subst hs
       unfold mrg
       rw [←e5,if_pos hh]
      ·exact d4 s h1 (by omega)
     ·dsimp only at h1 ⊢
      rw [atD_setD ⟨d1,by omega⟩ (by omega),if_neg (by omega)]
      exact d5 s (by omega) h2
    refine WP.chk ⟨by omega,by omega⟩ fun _=>?_
    refine WP.bif (fun wh=>?_) (fun wh=>?_)<;>(try simp only [wpH] at wh)
    ·have hh:=wh
     refine WP.chk ⟨by omega,by omega⟩ fun _=>?_
     refine WP.chk ⟨by omega,by omega⟩ fun _=>?_
     exact hgo (.inl hh)
    ·have hn0:=wh
     refine WP.chk ⟨by omega,by omega⟩ fun _=>?_
     refine WP.bif (fun wh=>?_) (fun wh=>?_)<;>(try simp only [wpH] at wh)
     ·have hh:=wh
      refine WP.chk ⟨by omega,by omega⟩ fun _=>?_
      refine WP.chk ⟨by omega,by omega⟩ fun _=>?_
      exact hgo (.inr hh)
     ·refine WP.chk ⟨by omega,by omega⟩ fun _=>?_
      refine ih3 _ ⟨⟨by dsimp only;omega,by dsimp only;omega⟩,d3,fun s h1 h2=>?_,fun s h1 h2=>d5 s (by dsimp only at h1;omega) h2⟩ (by dsimp only;omega)
      dsimp only at h2 ⊢
      by_cases hs:s=q
      ·subst hs
       unfold mrg
       rw [←e5,if_neg (fun h=>h.elim hn0 wh)]
      ·exact d4 s h1 (by omega)
   ·refine WP.chk ⟨by omega,by omega⟩ fun _=>?_
    exact ih2 _ ⟨⟨by dsimp only;omega,by dsimp only;omega⟩,b3.merge d3 ⟨p1,by omega⟩ ⟨p3,by omega⟩ hsz fun s hs=>d4 s hs.1 (by have:=hs.2;omega)⟩ (by dsimp only;omega)
  ·exact WP.ret b3
end
theorem keepL_ok {n i par:Int} {f:AFunc} (hf:WfF n i par f) (out:List (List Int)) (to:List Int):KeepP f (keepL f out to f.Code.length):=by
 refine ⟨by simp [keepL],fun k hk h=>?_⟩
 rw [keepL_at hk] at h
 unfold keepB deadB at h
 cases hr:remB (atD f.Code k) with
 | true=>rfl
 | false=>
   exfalso
   rw [hr] at h
   unfold remB at hr
   simp at h hr
   exact hr.2 h.1
theorem WfP.replace {p:AProgram} (hp:WfP p) {i:Int} (hi:inN i p.Funcs.length) {h:AFunc} (hh:WfF p.Funcs.length i (atD p.Funcs i).Params h):WfP ⟨setD p.Funcs i h⟩:=by
 have hat:∀j,0≤j→atD (setD p.Funcs i h) j=if j=i then h else atD p.Funcs j:=fun j hj=>atD_setD hi hj
 have hpar:∀j,0≤j→(atD (setD p.Funcs i h) j).Params=(atD p.Funcs j).Params:=fun j hj=>by
  rw [hat j hj]
  split
  ·rename_i e;rw [e,hh.parq]
  ·rfl
 refine ⟨by dsimp only;rw [length_setD];exact hp.len,?_,fun f hf=>?_,fun j h1 h2=>?_⟩
 ·dsimp only;rw [hpar 0 (Int.le_refl _)];exact hp.entry
 ·obtain ⟨j,h1,h2,rfl⟩:=mem_atD hf
  dsimp only at h2
  rw [length_setD] at h2
  rw [hpar j h1]
  exact hp.par _ (atD_mem ⟨h1,h2⟩)
 ·dsimp only at h2 ⊢
  rw [length_setD] at h2 ⊢
  rw [hpar j h1,hat j h1]
  split
  ·rename_i e;subst e;exact hh
  ·exact hp.func j h1 h2
def endN (l:List ASlot) (off:List Int):Nat→Int
 | 0=>0
 | m+1=>max (endN l off m) (atD off m+(atD l m).Size)
theorem endN_bd {l:List ASlot} {off:List Int}:∀{m:Nat},(∀k,inN k m→rgtP ⟨atD off k,(atD l k).Size⟩)→0≤endN l off m∧endN l off m≤2147483647
 | 0,_=>by simp [endN]
 | m+1,h=>by
   have h1:=endN_bd (m:=m) fun k hk=>h k ⟨hk.1,by have:=hk.2;omega⟩
   have h2:=h m ⟨by omega,by omega⟩
   unfold rgtP at h2
   dsimp only at h2
   unfold endN
   omega
def okOff (l:List ASlot) (off:List Int):Prop:=off.length=l.length∧∀k,inN k l.length→rgtP ⟨atD off k,(atD l k).Size⟩
def finOut (args:Int) (l:List ASlot) (off:List Int) (al:Int):ALayout × Int:=if 2147483519<upZ (max args (endN l off l.length)) al then (⟨0,0,[]⟩,9) else (⟨args,upZ (max args (endN l off l.length)) al,off⟩,0)
section
variable {p:AProgram} {i al args:Int} {l:List ASlot} {off:List Int}
theorem rend23_sp (hl:l.length≤1000000) (h:okOff l off):WP (r23_End l off) (·=endN l off l.length):=by
 unfold r23_End
 obtain ⟨h1,h2⟩:=h
 refine WP.loop (fun j=>∃m:Nat,m≤l.length∧j.2=m∧j.1=endN l off m) (fun j=>l.length- j.2.toNat) ⟨0,by omega,rfl,rfl⟩ ?_
 rintro again ⟨n,k⟩ ⟨m,q1,q2,q3⟩ ih
 dsimp only at q2 q3 ih ⊢
 subst q2 q3
 refine WP.bif (fun wh=>?_) (fun wh=>?_)<;>(try simp only [wpH] at wh)
 ·have hml:=wh
  have hr:=h2 m ⟨by omega,wh⟩
  unfold rgtP at hr
  dsimp only at hr
  refine WP.bif (fun _=>?_) (fun wh=>by exfalso;simp only [decide_eq_false_iff_not] at wh;omega)
  refine WP.chk ⟨by omega,by omega⟩ fun _=>?_
  refine WP.chk ⟨by omega,by omega⟩ fun _=>?_
  refine WP.chk ⟨by omega,by omega⟩ fun _=>?_
  refine WP.chk ⟨by omega,by omega⟩ fun _=>?_
  exact ih _ ⟨m+1,by omega,by simp,rfl⟩ (by dsimp only;omega)
 ·exact WP.ret (by rw [show m=l.length by omega])
theorem rfinishG_sp (hi:inN i p.Funcs.length) (hL:(atD p.Funcs i).Slots=l) (ha:WP (r24_Args p i) (·=args)) (h0:0≤args) (h1:args≤2147483647) (hl:l.length≤1000000) (hal:powB al=true):WP (r24_Finish p i al off) fun r=>(okOff l off→r=finOut args l off al)∧(¬okOff l off→r=(⟨0,0,[]⟩,13)):=by
 unfold r24_Finish
 refine WP.chk hi fun _=>?_
 rw [hL]
 refine WP.bif (fun wh=>?_) (fun wh=>?_)
 ·rw [Bool.not_eq_true',decide_eq_false_iff_not] at wh
  exact WP.ret ⟨fun q=>(wh (by rw [q.1])).elim,fun _=>rfl⟩
 rw [Bool.not_eq_false',decide_eq_true_eq] at wh
 have hlen:off.length=l.length:=by omega
 refine WP.loop (fun j=>(0≤j∧j≤l.length)∧∀k,0≤k→k<j→rgtP ⟨atD off k,(atD l k).Size⟩) (fun j=>l.length- j.toNat) ⟨⟨by omega,by omega⟩,fun k q1 q2=>by exfalso;omega⟩ ?_
 rintro again k ⟨⟨a1,a2⟩,a3⟩ ih
 refine WP.bif (fun wh=>?_) (fun wh=>?_)<;>(try simp only [wpH] at wh)
 ·have hkl:=wh
  refine WP.chk ⟨by omega,by omega⟩ fun _=>?_
  refine WP.chk ⟨by omega,by omega⟩ fun _=>?_
  refine WP.call (rrightG_sp _) fun b hb=>?_
  refine WP.bif (fun wh=>?_) (fun wh=>?_)
  ·exact WP.ret ⟨fun q=>(by rw [hb.2 (q.2 k ⟨a1,hkl⟩)] at wh;cases wh),fun _=>rfl⟩
  refine WP.chk ⟨by omega,by omega⟩ fun _=>?_
  refine ih _ ⟨⟨by omega,by omega⟩,fun t q1 q2=>?_⟩ (by omega)
  by_cases ht:t=k
  ·rw [ht];exact hb.1 (by simpa using wh)
  ·exact a3 t q1 (by omega)
 ·have hok:okOff l off:=⟨hlen,fun k hk=>a3 k hk.1 (by have:=hk.2;omega)⟩
  have hE:=endN_bd (l:=l) (off:=off) (m:=l.length) hok.2
  refine WP.call ha ?_
  intro x hx
  rw [hx]
  clear hx x
  refine WP.call (rend23_sp hl hok) ?_
  rintro _ rfl
  refine WP.call (rUp_sp _ _) ?_
  rintro _ rfl
  unfold upQ finOut
  rw [(boundB_iff _).2 ⟨by omega,by omega⟩,hal]
  simp only [Bool.and_self,if_true]
  generalize upZ (max args (endN l off l.length)) al=z at*
  by_cases hz:2147483647<z
  ·rw [if_pos hz]
   refine WP.bif (fun _=>WP.ret ⟨fun _=>by rw [if_pos (by omega)],fun q=>(q hok).elim⟩) (fun wh=>by simp at wh)
  ·rw [if_neg hz]
   refine WP.bif (fun wh=>by simp at wh) (fun _=>?_)
   refine WP.bif (fun wh=>?_) (fun wh=>?_)
   ·rw [decide_eq_true_eq] at wh
    exact WP.ret ⟨fun _=>by rw [if_pos wh],fun q=>(q hok).elim⟩
   ·rw [decide_eq_false_iff_not] at wh
    refine WP.chk (by omega) fun _=>?_
    exact WP.ret ⟨fun _=>by rw [if_neg wh],fun q=>(q hok).elim⟩
end
def layR (y:ALayout):Prop:=(0≤y.Args∧y.Args≤128)∧(0≤y.Size∧y.Size≤2147483647)∧y.Off.length≤6∧∀k,inN k y.Off.length→0≤atD y.Off k∧atD y.Off k≤2147483647
structure PropP (f:AFunc) (x:AProposal):Prop where
 live:Least f x.Live.Out
 to:ValidP f x.Rename.To
 keep:KeepP f x.Rename.Keep
 lay:layR x.Layout
theorem propose31_sp {p:AProgram} (hp:WfP p) {i:Int} (hi:inN i p.Funcs.length):WP (r31_Propose p i) (PropP (atD p.Funcs i)):=by
 have hf:=hp.func i hi.1 hi.2
 have hz:layR ⟨0,0,[]⟩:=⟨by simp,by simp,by simp,fun k hk=>by have:=hk.1;have:=hk.2;simp at this;omega⟩
 unfold r31_Propose
 refine WP.chk hi fun _=>?_
 refine WP.call (solve_sp hf) fun x1 h1=>?_
 have hA:=h1.live.ann
 refine WP.call (Graph18_sp hf h1.live) fun x2 ⟨_,h2⟩=>?_
 have hgl:∀s,inN s x2.1.length→(atD x2.1 s).length≤1000000:=fun s hs=>by
  have:=(h2.set s (by rw [←h2.len];exact hs)).1.length
  omega
 refine WP.call (classes19v_sp hf (by rw [h2.len];omega) hgl) fun x3 h3=>?_
 refine WP.call (rkeep20_sp hf hA h3.1) ?_
 rintro _ rfl
 have hK:=keepL_ok hf x1.Out x3
 refine WP.call (apply21_sp hf ⟨x3,_⟩) fun x5 h5=>?_
 obtain ⟨h5a,_,_,hh⟩:=h5.resolve_right fun q=>q.2.2 ⟨h3,hK⟩
 have hhs:=hh.slots
 refine WP.call (solve_sp hh) fun x6 h6=>?_
 unfold r18_Strict
 refine WP.call (R:=fun r=>GraphS x5.1.Slots.length r.1 (Edge x5.1 true x6.Out)) ?_ ?_
 ·exact WP.call (graph18_sp hh h6.live true) fun x hx=>WP.ret hx.2
 intro x7 h7
 refine WP.call (rargs24_sp p i hp hi) ?_
 rintro _ rfl
 have hAr:=argsN_R hp hi (l:=(atD p.Funcs i).Code) fun x hx=>hx
 refine WP.call (assign23_sp _ _ _ (fun s hs=>by have:=(h7.set s (by rw [←h7.len];exact hs)).1.length;omega) (by rw [h7.len];omega)) fun x9 h9=>?_
 refine WP.bif (fun _=>WP.ret ⟨h1,h3,hK,hz⟩) (fun wh=>?_)
 rw [Bool.not_eq_false',decide_eq_true_eq] at wh
 obtain ⟨h9a,h9b⟩:=h9 wh
 have hp':=hp.replace hi hh
 have hi':inN i (⟨setD p.Funcs i x5.1⟩:AProgram).Funcs.length:=by dsimp only;rw [length_setD];exact hi
 have hat:atD (setD p.Funcs i x5.1) i=x5.1:=by rw [atD_setD hi hi.1,if_pos rfl]
 unfold r31_Only r21_Replace
 have hpl:=hp.len
 refine WP.call (R:=(·=⟨setD p.Funcs i x5.1⟩)) ?_ ?_
 ·refine WP.call (R:=(·=⟨setD p.Funcs i x5.1⟩)) ?_ ?_
  ·refine WP.chk (by omega) fun _=>?_
   exact WP.chk hi fun _=>WP.ret rfl
  ·rintro _ rfl
   exact WP.ret rfl
 rintro _ rfl
 refine WP.call (align5_sp p hp) ?_
 rintro _ rfl
 have hAr2:=argsN_R hp' hi' (l:=(atD (⟨setD p.Funcs i x5.1⟩:AProgram).Funcs i).Code) fun x hx=>hx
 have hal:=(alP_pow hp (.inl rfl)).1
 have hle:=upZ_le (n:=max (16*argsN ⟨setD p.Funcs i x5.1⟩ (atD (⟨setD p.Funcs i x5.1⟩:AProgram).Funcs i).Code) (endN x5.1.Slots x9.1 x5.1.Slots.length)) (powB_bd hal).1
 refine WP.call (rfinishG_sp (l:=x5.1.Slots) (off:=x9.1) hi' (by dsimp only;rw [hat]) (rargs24_sp _ i hp' hi') (by omega) (by omega) (by omega) hal) fun x12 ⟨g1,g2⟩=>?_
 refine WP.ret ⟨h1,h3,hK,?_⟩
 dsimp only
 by_cases hok:okOff x5.1.Slots x9.1
 ·rw [g1 hok]
  unfold finOut
  split
  ·exact hz
  ·rename_i hns
   dsimp only at hAr2 hle hns ⊢
   exact ⟨by dsimp only;omega,by dsimp only;omega,by dsimp only;omega,fun k hk=>h9b k (by rw [←h9a];exact hk)⟩
 ·rw [g2 hok]
  exact hz
theorem int_sp (c:DCodes) (hc:okC c):WP (draw_Int c) fun r=>okC r.2∧okI r.1:=by
 unfold draw_Int
 refine WP.call (next_sp c 12 hc (by omega)) fun x1 ⟨h1,h2,h3,_⟩=>?_
 have h3:=h3 (by omega)
 refine WP.bif (fun wh=>?_) (fun wh=>?_)
 ·refine WP.call (next_sp _ _ h1 (by simp)) fun x2 ⟨a1,a2,a3,_⟩=>?_
  have a3:=a3 (by simp)
  simp only [List.length_cons,List.length_nil] at a3
  refine WP.chk ⟨a2,by simp;omega⟩ fun _=>?_
  refine WP.ret ⟨a1,?_⟩
  dsimp only
  have:x2.1=0∨x2.1=1∨x2.1=2∨x2.1=3∨x2.1=4∨x2.1=5∨x2.1=6∨x2.1=7∨x2.1=8∨x2.1=9:=by omega
  rcases this with h| h| h| h| h| h| h| h| h| h<;>rw [h]<;>simp [atD,okI]
 ·refine WP.call (next_sp _ 256 h1 (by omega)) fun x3 ⟨a1,a2,a3,_⟩=>?_
  have a3:=a3 (by omega)
  refine WP.call (next_sp _ 7 a1 (by omega)) fun x4 ⟨b1,b2,b3,_⟩=>?_
  have b3:=b3 (by omega)
  have hp:(0:Int)<2 ^ x4.1.toNat:=Int.pow_pos (by omega)
  have q1:0≤x3.1 / 2 ^ x4.1.toNat:=Int.ediv_nonneg a2 (by omega)
  have q2:x3.1 / 2 ^ x4.1.toNat≤x3.1:=Int.ediv_le_self _ a2
  refine WP.chk ⟨by omega,by omega⟩ fun _=>?_
  refine WP.chk ⟨by omega,by omega,by omega⟩ fun _=>?_
  refine WP.chk ⟨by omega,by omega⟩ fun _=>?_
  exact WP.ret ⟨b1,by dsimp only;omega,by dsimp only;omega⟩
section
variable {p:AProgram} {i:Int}
theorem layout_sp (hp:WfP p) (hi:inN i p.Funcs.length) {al:Int} (hal:powB al=true) (c:DCodes) (hc:okC c):WP (draw_Layout c p i al) fun r=>okC r.2∧r.1.Off.length≤10:=by
 have hsl:=hp.slotsR (atD_mem hi)
 have hA:=argsN_R hp hi (l:=(atD p.Funcs i).Code) fun x hx=>hx
 unfold draw_Layout
 refine WP.call (rbaseline_sp hi (rargs24_sp p i hp hi) (by omega) (by omega) (fun s hs=>(hsl.2 s hs).okS) (by omega) hal) fun x1 hx1=>?_
 have hl:x1.1.Off.length≤6:=by
  rw [hx1]
  unfold baseR
  split
  ·simp
  ·dsimp only;rw [offL_len];exact hsl.1
 clear hx1
 refine WP.join (fun j=>okC j.1∧j.2.Off.length≤6) ?_ ?_
 ·rintro ⟨c2,y⟩ ⟨a1,a2⟩
  dsimp only at a1 a2 ⊢
  refine WP.chk (by omega) fun _=>?_
  refine WP.call (next_sp _ 4 a1 (by omega)) fun x2 ⟨b1,b2,b3,_⟩=>?_
  have b3:=b3 (by omega)
  refine WP.loop (fun j=>0≤j.1∧okC j.2.1∧(j.2.2.2.2.length:Int)+j.1≤9) (fun j=>j.1.toNat) ⟨b2,b1,by dsimp only;omega⟩ ?_
  rintro again ⟨n,c3,A,Z,o⟩ ⟨d1,d2,d3⟩ ih
  dsimp only at d1 d2 d3 ih ⊢
  refine WP.bif (fun wh=>?_) (fun wh=>?_)<;>(try simp only [wpH] at wh)
  ·refine WP.join (fun j=>okC j.1∧j.2.2.2.length≤o.length+1) ?_ ?_
   ·rintro ⟨c4,A2,Z2,o2⟩ ⟨e1,e2⟩
    dsimp only at e1 e2 ⊢
    refine WP.chk ⟨by omega,by omega⟩ fun _=>?_
    exact ih _ ⟨by dsimp only;omega,e1,by dsimp only;omega⟩ (by dsimp only;omega)
   intro k2 hk2
   refine WP.call (next_sp _ _ d2 (by omega)) fun x3 ⟨f1,f2,f3,_⟩=>?_
   refine WP.call (next_sp _ 8 f1 (by omega)) fun x4 ⟨g1,g2,g3,_⟩=>?_
   have g3:=g3 (by omega)
   have same:∀(c:DCodes) (A Z:Int),okC c→WP (k2 (c,A,Z,o)) fun r=>okC r.2∧r.1.Off.length≤10:=fun c A Z h=>hk2 _ ⟨h,by dsimp only;omega⟩
   have sets:∀(c:DCodes) (A Z j v:Int),okC c→WP (k2 (c,A,Z,setD o j v)) fun r=>okC r.2∧r.1.Off.length≤10:=fun c A Z j v h=>hk2 _ ⟨h,by dsimp only;rw [length_setD];omega⟩
   refine WP.join (fun _=>True) ?_ ?_
   ·intro b _
    refine WP.bif (fun wh=>?_) (fun wh=>?_)
    ·refine WP.bif (fun wh=>?_) (fun wh=>same _ _ _ g1)<;>(try simp only [wpH] at wh)
     refine WP.call (next_sp _ 6 g1 (by omega)) fun x6 ⟨m1,m2,m3,_⟩=>?_
     have m3:=m3 (by omega)
     refine WP.chk ⟨by omega,by omega⟩ fun _=>?_
     refine WP.chk ⟨by omega,by omega⟩ fun _=>?_
     exact sets _ _ _ _ _ m1
    ·refine WP.join (fun _=>True) ?_ ?_
     ·intro b _
      refine WP.bif (fun wh=>?_) (fun wh=>?_)
      ·refine WP.bif (fun wh=>?_) (fun wh=>same _ _ _ g1)<;>(try simp only [wpH] at wh)
       refine WP.call (next_sp _ _ g1 (by omega)) fun x8 ⟨m1,m2,m3,_⟩=>?_
       have m3:=m3 (by omega)
       refine WP.chk ⟨by omega,by omega⟩ fun _=>?_
       refine WP.chk ⟨by omega,by omega⟩ fun _=>?_
       exact sets _ _ _ _ _ m1
      ·refine WP.bif (fun wh=>?_) (fun wh=>?_)
       ·refine WP.call (next_sp _ 4 g1 (by omega)) fun x9 ⟨m1,m2,m3,_⟩=>?_
        have m3:=m3 (by omega)
        refine WP.chk ⟨by omega,by omega⟩ fun _=>?_
        refine WP.chk ⟨by omega,by omega⟩ fun _=>?_
        exact same _ _ _ m1
       refine WP.bif (fun wh=>?_) (fun wh=>?_)
       ·refine WP.bif (fun wh=>?_) (fun wh=>same _ _ _ g1)<;>(try simp only [wpH] at wh)
        refine WP.call (next_sp _ 3 g1 (by omega)) fun x10 ⟨m1,m2,m3,_⟩=>?_
        refine WP.bif (fun _=>?_) (fun _=>same _ _ _ m1)
        refine WP.call (int_sp _ m1) fun x11 ⟨n1,_⟩=>?_
        refine WP.chk ⟨by omega,by omega⟩ fun _=>?_
        exact sets _ _ _ _ _ n1
       refine WP.bif (fun wh=>?_) (fun wh=>same _ _ _ g1)
       refine WP.call (next_sp _ 8 g1 (by omega)) fun x12 ⟨m1,m2,m3,_⟩=>?_
       refine WP.bif (fun _=>?_) (fun _=>?_)
       ·exact WP.call (int_sp _ m1) fun x13 ⟨n1,_⟩=>same _ _ _ n1
       refine WP.bif (fun _=>?_) (fun _=>?_)
       ·exact WP.call (int_sp _ m1) fun x13 ⟨n1,_⟩=>same _ _ _ n1
       refine WP.bif (fun _=>?_) (fun _=>same _ _ _ m1)
       refine WP.call (next_sp _ 40 m1 (by omega)) fun x15 ⟨n1,_⟩=>?_
       refine WP.chk (by simp only [List.length_singleton];omega) fun _=>?_
       exact hk2 _ ⟨n1,by simp⟩
     ·intro k4 hk4
      exact WP.bif (fun _=>hk4 _ trivial) (fun _=>hk4 _ trivial)
   ·intro k3 hk3
    refine WP.bif (fun _=>hk3 _ trivial) (fun _=>?_)
    exact WP.bif (fun _=>hk3 _ trivial) (fun _=>hk3 _ trivial)
  ·exact WP.ret ⟨d2,by dsimp only;omega⟩
 ·intro k1 hk1
  refine WP.call (next_sp _ 3 hc (by omega)) fun x16 ⟨b1,_⟩=>?_
  refine WP.bif (fun _=>?_) (fun _=>hk1 _ ⟨b1,hl⟩)
  refine WP.call (propose31_sp hp hi) fun x17 h17=>?_
  exact WP.bif (fun _=>hk1 _ ⟨b1,h17.lay.2.2.1⟩) (fun _=>hk1 _ ⟨b1,hl⟩)
end
end Go.Proofs.YtgbkhjllbgmdcaaGreat.Q
