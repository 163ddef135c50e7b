/- Closed rows as worlds hold them; the closing of a law. -/
import Derived.Test.YtgbkhjllbgmdcaaGreatMc
import Derived.Test.YtgbkhjllbgmdcaaGreatBase
namespace Go.Proofs.YtgbkhjllbgmdcaaGreat
open Go.RowKit
theorem Holds.treeB {w:World} {F:Nat→Prop} {S:Nat→Prop} {l:List Int} {v:Value} (h:Holds w S 1 v l.length (l.map (Value.int .u8))) (hF:∀g,S g→F g):Tr w F (.tree (l.map bRow)) v:=by
 obtain ⟨A,c,rfl,hc,hm,hl,hcell⟩:=h
 rcases Nat.eq_zero_or_pos l.length with h0| h0
 ·have:l=[]:=List.length_eq_zero_iff.1 h0
  subst this
  exact .empty A c hm
 ·obtain ⟨b,o,rfl,hS,hcell⟩:=hcell h0
  have:=Tr.tree (w:=w) (F:=F) (l.map bRow) b o 1 c (fun i _=> .int .u8 (l[i]?.getD 0)) (by rw [List.length_map];exact hc) hm (fun row hrow=>by
   obtain ⟨n,_,rfl⟩:=List.mem_map.1 hrow;rfl) (hF b hS) (fun i j row x hi hj=>?_) (fun i j row x hi hj=>?_)
  ·rw [List.length_map] at this;exact this
  ·rw [List.getElem?_map,Option.map_eq_some_iff] at hi
   obtain ⟨n,hn,rfl⟩:=hi
   have hj0:j=0:=by
    have:=(List.getElem?_eq_some_iff.1 hj).1
    simp [bRow] at this;omega
   subst hj0
   have:=hcell i (.int .u8 n) (by rw [List.getElem?_map,hn];rfl)
   rw [hn];simpa using this
  ·rw [List.getElem?_map,Option.map_eq_some_iff] at hi
   obtain ⟨n,hn,rfl⟩:=hi
   have hj0:j=0:=by
    have:=(List.getElem?_eq_some_iff.1 hj).1
    simp [bRow] at this;omega
   subst hj0
   simp only [bRow,List.getElem?_cons_zero,Option.some.injEq] at hj
   subst hj
   rw [hn]
   exact .int _ _
theorem HRep.start (w:World) (η:Nat→Value) (hT:false=true→TabW w):HRep ⟨w,[],fun b=>b<w.heap.size⟩ w η (fun b=>b<w.heap.size) (lentHp []):=by
 refine ⟨fun b k hk=>?_,fun b b' k k' g hk=>?_,fun b k g hk=>?_,fun b k g hk=>?_,fun g hF=>hF,fun b k g hk=>?_,fun j v k hj _=>by simp at hj,⟨rfl,rfl,rfl,Nat.le_refl _,fun _ _ _=>rfl⟩,fun g hF=> .inl hF,fun hd=>⟨hT hd,fun g hg=>by obtain ⟨v,hv,_⟩:=hg;simp at hv⟩⟩<;>cases hk
theorem law_close {f:FuncId} {args:List WV} {vs:Array Value} {w:World} {b:Bool} (hf:FCalls Tryz.prog f [] args (bS b) [] []) (hT:false=true→TabW w) (hs:vs.size=args.length) (ha:∀(i:Nat) (x:WV) (v:Value),args[i]?=some x→vs[i]?=some v→WRep w (fun b=>b<w.heap.size) (fun _=>undef) (lentHp []) x v):
 Calls Tryz.prog f vs w fun e w'=>e=.returned (.bool b)∧Below w.heap.size w w':=by
 obtain ⟨_,_,h⟩:=hf
 refine (h w [] (fun _=>undef) _ vs rfl (HRep.start w _ hT) hs ha).mono fun e w' ⟨v,η',F',h1,h2,h3⟩=>⟨?_,?_⟩
 ·rw [h1,Tr.bool_inv h3]
 ·exact ⟨h2.keep.os,h2.keep.tape,h2.keep.output,h2.keep.size,fun k hk=>h2.keep.block k hk (fun hg=>by obtain ⟨v,hv,_⟩:=hg;simp at hv)⟩
end Go.Proofs.YtgbkhjllbgmdcaaGreat
