/- Plain facts on integers, powers of two and bits, with no program in sight. -/
import Derived.WalkKit
import Derived.Laws.BitsAllLaws
import Derived.WalkSpells
import Derived.ProofKit
import Derived.OpenShut
import Derived.Deep.Slices
import Derived.Deep.Fields
import Derived.Deep.AppendLies
namespace Go.Proofs.YtgbkhjllbgmdcaaGreat
open Go.RowKit
theorem p64_lt {j:Nat} (h:j≤62):(2:Nat) ^ j<2 ^ 63:=Nat.pow_lt_pow_right (by omega) (by omega)
theorem ofInt64_nat (a:Nat) (ha:a<9223372036854775808):(BitVec.ofInt 64 (a:Int)).toNat=a:=by
 rw [BitVec.ofInt_natCast,BitVec.toNat_ofNat];exact Nat.mod_eq_of_lt (by omega)
theorem i64_and_nat (a b:Nat) (ha:a<9223372036854775808) (hb:b<9223372036854775808):bits .and .i64 (a:Int) (b:Int)=((a&&&b:Nat):Int):=by
 have hx:a&&&b<2 ^ 63:=Nat.and_lt_two_pow _ (by omega)
 show IntKind.i64.wrap ((BitVec.ofInt 64 (a:Int)&&&BitVec.ofInt 64 (b:Int)).toNat:Int)=_
 rw [BitVec.toNat_and,ofInt64_nat a ha,ofInt64_nat b hb,IntKind.wrap_i64]
 omega
theorem nat_andNot_mask (x j:Nat) (hx:x<2 ^ 64) (hj:j≤63):x&&&(2 ^ 64- 1- (2 ^ j- 1))=x / 2 ^ j*2 ^ j:=by
 apply Nat.eq_of_testBit_eq
 intro i
 rw [Nat.testBit_and,Nat.testBit_mul_two_pow,Nat.testBit_div_two_pow]
 have hpj:(2:Nat) ^ j≤2 ^ 63:=Nat.pow_le_pow_right (by omega) hj
 have e:2 ^ 64- 1- (2 ^ j- 1)=2 ^ 64- ((2 ^ j- 1)+1):=by omega
 rw [e,Nat.testBit_two_pow_sub_succ (by omega),Nat.testBit_two_pow_sub_one]
 by_cases hij:j≤i
 ·have h1:¬i<j:=by omega
  have h2:j+(i- j)=i:=by omega
  have h2':i- j+j=i:=by omega
  by_cases hi:i<64
  ·simp [hij,hi,h2']
  ·have:x.testBit i=false:=Nat.testBit_lt_two_pow (Nat.lt_of_lt_of_le hx (Nat.pow_le_pow_right (by omega) (by omega)))
   simp [this,hij,h2']
 ·have h1:i<j:=by omega
  simp [hij,h1]
theorem i64_andNot_mask (x j:Nat) (hx:x<9223372036854775808) (hj:j≤62):bits .andNot .i64 (x:Int) ((2 ^ j:Nat)- 1:Int)=((x / 2 ^ j*2 ^ j:Nat):Int):=by
 have hp:=p64_lt hj
 have h1:1≤2 ^ j:=Nat.one_le_two_pow
 have e:(((2 ^ j:Nat):Int)- 1)=((2 ^ j- 1:Nat):Int):=by omega
 rw [e]
 have hle:x / 2 ^ j*2 ^ j≤x:=Nat.div_mul_le_self _ _
 show IntKind.i64.wrap ((BitVec.ofInt 64 (x:Int)&&&~~~BitVec.ofInt 64 ((2 ^ j- 1:Nat):Int)).toNat:Int)=_
 rw [BitVec.toNat_and,BitVec.toNat_not,ofInt64_nat x hx,ofInt64_nat (2 ^ j- 1) (by omega),nat_andNot_mask x j (by omega) (by omega),IntKind.wrap_i64]
 omega
theorem and_pred_zero {n:Nat} (hn:0<n) (h:n&&&(n- 1)=0):∃j,n=2 ^ j:=by
 refine ⟨n.log2,?_⟩
 have hlo:2 ^ n.log2≤n:=Nat.log2_self_le (by omega)
 have hhi:n<2 ^ (n.log2+1):=Nat.lt_log2_self
 rcases Nat.lt_or_ge (2 ^ n.log2) n with hlt| hge
 ·exfalso
  have h1:n.testBit n.log2=true:=by
   rw [Nat.testBit_eq_decide_div_mod_eq]
   have:n / 2 ^ n.log2=1:=by
    apply Nat.div_eq_of_lt_le<;>simp<;>omega
   simp [this]
  have h2:(n- 1).testBit n.log2=true:=by
   rw [Nat.testBit_eq_decide_div_mod_eq]
   have:(n- 1) / 2 ^ n.log2=1:=by
    apply Nat.div_eq_of_lt_le<;>simp<;>omega
   simp [this]
  have h3:(n&&&(n- 1)).testBit n.log2=true:=by rw [Nat.testBit_and,h1,h2];rfl
  rw [h] at h3
  simp at h3
 ·omega
theorem and_pred_pow (j:Nat):2 ^ j&&&(2 ^ j- 1)=0:=by
 rw [Nat.and_two_pow_sub_one_eq_mod];simp
theorem pow_le_pow_iff2 {i j:Nat}:(2:Nat) ^ i≤2 ^ j↔i≤j:=Nat.pow_le_pow_iff_right (by omega)
def powB (n:Int):Bool:=decide (1≤n)&&decide (n≤16777216)&&(bits .and .i64 n (n- 1)==0)
theorem powB_iff (n:Int):powB n=true↔∃j:Nat,j≤24∧n=((2 ^ j:Nat):Int):=by
 unfold powB
 constructor
 ·intro h
  simp only [Bool.and_eq_true,decide_eq_true_eq,beq_iff_eq] at h
  obtain ⟨⟨h1,h2⟩,h3⟩:=h
  obtain ⟨m,rfl⟩:=Int.eq_ofNat_of_zero_le (show 0≤n by omega)
  have e:((m:Int)- 1)=((m- 1:Nat):Int):=by omega
  rw [e,i64_and_nat m (m- 1) (by omega) (by omega)] at h3
  obtain ⟨j,hj⟩:=and_pred_zero (n:=m) (by omega) (by omega)
  refine ⟨j,?_,by rw [hj]⟩
  have:(2:Nat) ^ j≤2 ^ 24:=by rw [←hj];omega
  exact pow_le_pow_iff2.1 this
 ·rintro ⟨j,hj,rfl⟩
  have h1:1≤2 ^ j:=Nat.one_le_two_pow
  have h2:(2:Nat) ^ j≤2 ^ 24:=pow_le_pow_iff2.2 hj
  have e:(((2 ^ j:Nat):Int)- 1)=((2 ^ j- 1:Nat):Int):=by omega
  simp only [Bool.and_eq_true,decide_eq_true_eq,beq_iff_eq]
  refine ⟨⟨by omega,by omega⟩,?_⟩
  rw [e,i64_and_nat _ _ (by omega) (by omega),and_pred_pow];rfl
theorem powB_pos {n:Int} (h:powB n=true):1≤n∧n≤16777216:=by
 unfold powB at h
 simp only [Bool.and_eq_true,decide_eq_true_eq] at h
 exact h.1
def upZ (n a:Int):Int:=(n+a- 1) / a*a
theorem upZ_eq {n a:Int} (h0:0≤n) (h1:n≤4611686018427387904) (ha:powB a=true):bits .andNot .i64 (n+a- 1) (a- 1)=upZ n a:=by
 obtain ⟨j,hj,rfl⟩:=(powB_iff a).1 ha
 obtain ⟨m,rfl⟩:=Int.eq_ofNat_of_zero_le h0
 have h1':1≤2 ^ j:=Nat.one_le_two_pow
 have h2:(2:Nat) ^ j≤2 ^ 24:=pow_le_pow_iff2.2 hj
 have e:((m:Int)+((2 ^ j:Nat):Int)- 1)=((m+2 ^ j- 1:Nat):Int):=by omega
 unfold upZ
 rw [e,i64_andNot_mask _ j (by omega) (by omega)]
 push_cast
 rfl
theorem upZ_le {n a:Int} (ha:1≤a):n≤upZ n a:=by
 unfold upZ
 have h1:=Int.emod_add_mul_ediv (n+a- 1) a
 have h2:=Int.emod_lt_of_pos (n+a- 1) (show 0<a by omega)
 have h3:(n+a- 1) / a*a=a*((n+a- 1) / a):=Int.mul_comm _ _
 omega
theorem upZ_lt {n a:Int} (ha:1≤a):upZ n a<n+a:=by
 unfold upZ
 have h1:=Int.emod_add_mul_ediv (n+a- 1) a
 have h2:=Int.emod_nonneg (n+a- 1) (show a≠0 by omega)
 have h3:(n+a- 1) / a*a=a*((n+a- 1) / a):=Int.mul_comm _ _
 omega
theorem upZ_dvd (n a:Int):a∣upZ n a:=⟨(n+a- 1) / a,by unfold upZ;exact Int.mul_comm _ _⟩
theorem upZ_mod (n a:Int):upZ n a % a=0:=Int.emod_eq_zero_of_dvd (upZ_dvd n a)
theorem upZ_least {n a m:Int} (ha:1≤a) (hm:a∣m) (h:n≤m):upZ n a≤m:=by
 obtain ⟨k,rfl⟩:=hm
 unfold upZ
 have h1:(n+a- 1) / a≤k:=by
  apply Int.le_of_lt_add_one
  apply Int.ediv_lt_of_lt_mul (by omega)
  have:(k+1)*a=a*k+a:=by rw [Int.add_mul,Int.mul_comm];omega
  omega
 rw [Int.mul_comm a k]
 exact Int.mul_le_mul_of_nonneg_right h1 (by omega)
theorem upZ_id {n a:Int} (ha:1≤a) (h:a∣n):upZ n a=n:=
 Int.le_antisymm (upZ_least ha h (Int.le_refl _)) (upZ_le ha)
theorem upZ_mod_form {n a:Int} (ha:1≤a):upZ n a=if n % a=0 then n else n- n % a+a:=by
 split
 ·rename_i h
  exact upZ_id ha (Int.dvd_of_emod_eq_zero h)
 ·rename_i h
  have h1:=Int.emod_add_mul_ediv n a
  have h2:=Int.emod_nonneg n (show a≠0 by omega)
  have h3:=Int.emod_lt_of_pos n (show 0<a by omega)
  have hd:a∣n- n % a+a:=⟨n / a+1,by rw [Int.mul_add];omega⟩
  apply Int.le_antisymm
  ·exact upZ_least ha hd (by omega)
  ·have hlo:=upZ_le (n:=n) ha
   obtain ⟨k,hk⟩:=upZ_dvd n a
   rw [hk] at hlo ⊢
   have:n / a<k:=by
    apply Int.lt_of_mul_lt_mul_left (a:=a) _ (by omega)
    omega
   have h5:a*(n / a+1)≤a*k:=Int.mul_le_mul_of_nonneg_left (by omega) (by omega)
   rw [Int.mul_add] at h5
   omega
def boundB (n:Int):Bool:=decide (0≤n)&&decide (n≤2147483647)
theorem boundB_iff (n:Int):boundB n=true↔0≤n∧n≤2147483647:=by simp [boundB]
theorem boundB_no (n:Int):boundB n=false↔n<0∨2147483647<n:=by
 rw [←Bool.not_eq_true,boundB_iff];omega
end Go.Proofs.YtgbkhjllbgmdcaaGreat
namespace Go.Proofs.YtgbkhjllbgmdcaaGreat
open Go.ChangeShapes Go.WideShapes Go.ChangeAt Go.RowKit Go.Deep
def Holds (w:World) (S:Nat→Prop) (sz:Nat) (v:Value) (n:Nat) (xs:List Value):Prop:=
 ∃A c,v=.slice A n c∧n≤c∧c≤maxLen∧xs.length=n*sz∧
  (0<n→∃b o,A=some ⟨b,o,none⟩∧S b∧∀j u,xs[j]?=some u→w.cell? ⟨b,o+j,none⟩=some u)
section
variable {w w':World} {S S':Nat→Prop} {sz n:Nat} {v:Value} {xs:List Value}
end
section
variable {H:Type} {enc:TypeId × Value→H} {P:Program} {w:World}
theorem addr_of_cells {a:Addr} {u:Value} (h:w.cell? a=some u):a=⟨a.block,a.off,none⟩:=by
 obtain ⟨b,o,s⟩:=a
 simp only [World.cell?] at h
 split at h
 ·cases s with
  | none=>rfl
  | some x=>simp at h
 ·cases h
theorem add_none (b o j:Nat):(⟨b,o,none⟩:Addr).add j=⟨b,o+j,none⟩:=by unfold Addr.add;split<;>simp_all
theorem open_reads {base0:Nat} {t e:TypeId} {k:IntKind} {v:Value} {d:DataW H} {p:List MemPlace} (ht:P.underlying t=some (.slice e)) (he:P.underlying e=some (.int k)) (hc:P.cellsOf e=1)
 (hval:Value.okWide P w .any base0 t v) (h:DataW.Trod enc P w 0 (fun _=>true) true t v d p):
 ∃l:List Int,Holds w (fun b=>b<w.heap.size) 1 v l.length (l.map (Value.int k))∧∀z∈l,(Lit.int k z).wf=true:=by
 obtain ⟨a0,len,cap,rfl⟩:=okWide_slice ht hval
 obtain ⟨fuel,hf⟩:=h
 rcases open_ints ht he hc hf with ⟨hcs,_⟩| ⟨a,len',cap',zs,hcs,_,hl,hm,hz,_,hcell,hwz⟩
 ·have h0:Value.slice a0 len cap=.slice none 0 0:=by simpa [Value.cells] using hcs
  injection h0 with h1 h2 h3
  subst h1;subst h2;subst h3
  exact ⟨[],⟨_,_,rfl,Nat.le_refl _,by simp [maxLen],by simp,fun h=>absurd h (by simp)⟩,by simp⟩
 ·have h0:Value.slice a0 len cap=.slice (some a) len' cap':=by simpa [Value.cells] using hcs
  injection h0 with h1 h2 h3
  subst h1;subst h2;subst h3
  simp only [if_true] at hz
  have hlen:(zs.take len).length=len:=by rw [List.length_take];omega
  refine ⟨zs.take len,⟨_,_,by rw [hlen],by omega,hm,by simp,fun hn=>?_⟩,fun z hz'=>hwz z (List.mem_of_mem_take hz')⟩
  rw [hlen] at hn
  have hc0:=hcell 0 (by omega)
  have ha:a=⟨a.block,a.off,none⟩:=by
   have:a.add 0=a:=by simp [Addr.add]
   rw [this] at hc0
   exact addr_of_cells hc0
  refine ⟨a.block,a.off,by rw [←ha],?_,fun j u hu=>?_⟩
  ·have:a.add 0=a:=by simp [Addr.add]
   rw [this] at hc0
   exact World.block_lt_of_cell? _ _ hc0
  ·rw [List.getElem?_map,List.getElem?_take] at hu
   split at hu
   ·rename_i hj
    have hc1:=hcell j (by omega)
    rw [ha,add_none] at hc1
    rw [hc1]
    have:zs[j]?=some zs[j]:=List.getElem?_eq_getElem (by omega)
    rw [this] at hu
    simp only [Option.map_some,Option.some.injEq] at hu
    rw [←hu]
    simp [List.getD_eq_getElem?_getD,this]
   ·simp at hu
end
end Go.Proofs.YtgbkhjllbgmdcaaGreat
