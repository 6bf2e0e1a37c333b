/-
  Regions that draw their order and end in a store to a cell that the region itself loads: the condition on the world is asked behind an operation only if some operation that is taken first may still come. No program is named here.
-/
import Derived.WalkKit
import Derived.WalkSpells
import Derived.WalkLawsBesides
import Derived.Deep.QuietTactic
import Derived.BigQuiet
import Derived.Lib.Hide
import Derived.Laws.AppendOwnNone
import Derived.Deep.RegionLaw
import Derived.ProofKit
import Derived.OrdersHeld
import Derived.Deep.RegionHeld3
set_option linter.unusedVariables false
set_option linter.unusedSimpArgs false
namespace Go.Proofs.Ytlpdkbmmbdfoiaa
def val :List Nat→Nat
 | []=>0
 | x::l=>x+4294967296*val l
def Lm (l:List Nat):Prop:=∀x∈l,x<4294967296
def clen :List Nat→Nat
 | []=>0
 | x::l=>if clen l=0 then(if x=0 then 0 else 1)else clen l+1
theorem zgj (l:List Nat):clen l≤l.length:=by
 induction l with
 | nil=>simp[clen]
 | cons x l ih=>simp only[clen,List.length_cons];split<;>(try split)<;>omega
theorem clen_snoc (l:List Nat) (x:Nat):clen (l++ [x])=if x=0 then clen l else l.length+1:=by
 induction l with
 | nil=>simp[clen]
 | cons y l ih=>
   simp only[List.cons_append,clen,ih,List.length_cons]
   by_cases hx:x=0
   ·simp[hx]
   ·simp[hx]
theorem zxc {α:Type} (l:List α) (k:Nat) (h:k<l.length):l.take (k+1)=l.take k++ [l[k]]:=by
 rw[List.take_succ_eq_append_getElem h]
theorem zbf (l:List Nat) (k:Nat) (h:k<l.length) (h0:l[k]=0):clen (l.take (k+1))=clen (l.take k):=by
 rw[zxc l k h,clen_snoc,if_pos h0]
theorem zki (l:List Nat) (k:Nat) (h:k<l.length) (h0:l[k]≠0):clen (l.take (k+1))=k+1:=by
 rw[zxc l k h,clen_snoc,if_neg h0,List.length_take];omega
def pw (k:Nat):Nat:=4294967296^k
theorem zye :pw 0=1:=rfl
theorem zmb (k:Nat):pw (k+1)=4294967296*pw k:=by unfold pw;rw[Nat.pow_succ,Nat.mul_comm]
theorem pw_pos (k:Nat):0<pw k:=Nat.pow_pos (by decide)
theorem pw_add (j k:Nat):pw (j+k)=pw j*pw k:=by unfold pw;rw[Nat.pow_add]
theorem pw_le {j k:Nat} (h:j≤k):pw j≤pw k:=Nat.pow_le_pow_right (by decide) h
theorem zac (a b:List Nat):val (a++b)=val a+pw a.length*val b:=by
 induction a with
 | nil=>simp[val,zye]
 | cons x a ih=>
   simp only[List.cons_append,val,ih,List.length_cons,zmb]
   rw[Nat.mul_add,Nat.mul_assoc];omega
theorem zoe {l:List Nat} (h:Lm l):val l<pw l.length:=by
 induction l with
 | nil=>simp[val,zye]
 | cons x l ih=>
   have h1:=ih (fun y hy=>h y (by simp[hy]))
   have h2:=h x (by simp)
   simp only[val,List.length_cons,zmb]
   omega
theorem zia (l:List Nat) (k:Nat) (h:k<l.length):val (l.take (k+1))=val (l.take k)+pw k*l[k]:=by
 rw[zxc l k h,zac,List.length_take,Nat.min_eq_left (by omega)];simp[val]
theorem zza (l:List Nat) (k:Nat) (h:l.length≤k):val (l.take k)=val l:=by rw[List.take_of_length_le h]
theorem znf (n:Nat):val (List.replicate n 0)=0:=by
 induction n with
 | zero=>rfl
 | succ n ih=>simp[List.replicate_succ,val,ih]
theorem zlf {l:List Nat}:val l=0↔clen l=0:=by
 induction l with
 | nil=>simp[val,clen]
 | cons x l ih=>
   simp only[val,clen]
   by_cases h:clen l=0
   ·rw[if_pos h];have:=ih.2 h;by_cases hx:x=0<;>simp[hx,this]
   ·rw[if_neg h];have :val l≠0:=fun e=>h (ih.1 e);omega
def zla (n:Nat):List Nat:=if h:n=0 then []else n%4294967296::zla (n/4294967296)
termination_by n
decreasing_by exact Nat.div_lt_self (by omega) (by decide)
theorem zbc :zla 0= []:=by rw[zla];simp
theorem zxd {n:Nat} (h:n≠0):zla n=n%4294967296::zla (n/4294967296):=by rw[zla];simp[h]
theorem zcj (n:Nat):val (zla n)=n∧Lm (zla n)∧clen (zla n)=(zla n).length:=by
 induction n using Nat.strongRecOn with
 | _ n ih=>
   by_cases h:n=0
   ·subst h;rw[zbc];exact⟨rfl,fun x h=>by simp at h,rfl⟩
   ·rw[zxd h]
    obtain⟨h1,h2,h3⟩:=ih (n/4294967296) (Nat.div_lt_self (by omega) (by decide))
    refine⟨by simp only[val,h1];omega,fun x hx=> ?_,?_⟩
    ·rcases List.mem_cons.1 hx with rfl | hx
     ·omega
     ·exact h2 x hx
    ·simp only[clen,List.length_cons]
     by_cases h0:clen (zla (n/4294967296))=0
     ·have hv:=zlf.2 h0
      rw[h1]at hv
      rw[if_pos h0,if_neg (by omega)];omega
     ·rw[if_neg h0];omega
theorem zha (n:Nat):val (zla n)=n:=(zcj n).1
theorem zrb (n:Nat):Lm (zla n):=(zcj n).2.1
theorem clen_limbs (n:Nat):clen (zla n)=(zla n).length:=(zcj n).2.2
theorem zhl {l:List Nat} (h:Lm l):zla (val l)=l.take (clen l):=by
 induction l with
 | nil=>simp[val,clen,zbc]
 | cons x l ih=>
   have h1:=ih (fun y hy=>h y (by simp[hy]))
   have h2:=h x (by simp)
   by_cases h0:clen l=0
   ·have hv:=zlf.2 h0
    simp only[val,clen,if_pos h0,hv]
    by_cases hx:x=0
    ·simp[hx,zbc]
    ·rw[if_neg hx,zxd (by omega),show(x+4294967296*0)/4294967296=0 from by omega,zbc,show(x+4294967296*0)%4294967296=x from by omega];simp
   ·have hv:val l≠0:=fun e=>h0 (zlf.1 e)
    simp only[val,clen,if_neg h0]
    rw[zxd (by omega),show(x+4294967296*val l)%4294967296=x from by omega,show(x+4294967296*val l)/4294967296=val l from by omega,h1]
    simp
def zda (n:Nat):Nat:=(zla n).length
theorem zzc :zda 0=0:=by simp[zda,zbc]
theorem nlen_pos {n:Nat} (h:n≠0):zda n=zda (n/4294967296)+1:=by simp[zda,zxd h]
theorem zta {n:Nat}:zda n=0↔n=0:=by
 constructor
 ·intro h;by_cases h0:n=0
  ·exact h0
  ·rw[nlen_pos h0]at h;omega
 ·rintro rfl;exact zzc
theorem zhj {l:List Nat} (h:Lm l):clen l=zda (val l):=by
 unfold zda;rw[zhl h,List.length_take];have:=zgj l;omega
theorem zhe (n:Nat):n<pw (zda n):=by
 have:=zoe (zrb n);rw[zha]at this;exact this
theorem zzb {n k:Nat}:zda n≤k↔n<pw k:=by
 constructor
 ·intro h;exact Nat.lt_of_lt_of_le (zhe n) (pw_le h)
 ·induction k generalizing n with
  | zero=>intro h;simp[zye]at h;subst h;simp[zzc]
  | succ k ih=>
    intro h
    by_cases h0:n=0
    ·subst h0;simp[zzc]
    ·rw[nlen_pos h0]
     have:= @ih (n/4294967296) (by rw[zmb]at h;omega)
     omega
theorem zfb {m n:Nat} (h:m≤n):zda m≤zda n:=zzb.2 (Nat.lt_of_le_of_lt h (zhe n))
theorem zkn {n k:Nat} (h:k<zda n):pw k≤n:=Nat.le_of_not_lt fun h'=>by have:=zzb.2 h';omega
theorem zhg {m n:Nat} (h:zla m=zla n):m=n:=by rw[←zha m,←zha n,h]
theorem zzm {α:Type} (o:List α) (k:Nat) (z:α) (h:k<o.length):(o.set k z).take (k+1)=o.take k++ [z]:=by
 rw[zxc _ k (by simpa using h),List.take_set_of_le (Nat.le_refl _)]
 simp
theorem zkb (o:List Nat) (k z:Nat) (h:k<o.length):val ((o.set k z).take (k+1))=val (o.take k)+pw k*z:=by
 rw[zzm o k z h,zac,List.length_take,Nat.min_eq_left (by omega)];simp[val]
theorem zli {o a b:List Nat} {k c x y:Nat} (hk:k<o.length) (ha:val (a.take (k+1))=val (a.take k)+pw k*x) (hb:val (b.take (k+1))=val (b.take k)+pw k*y)
 (hv:val (o.take k)+pw k*c=val (a.take k)+val (b.take k)):
 val ((o.set k ((c+x+y)%4294967296)).take (k+1))+pw (k+1)*((c+x+y)/4294967296)=val (a.take (k+1))+val (b.take (k+1)):=by
 rw[zkb o k _ hk,ha,hb,zmb]
 have h:(c+x+y)%4294967296+4294967296*((c+x+y)/4294967296)=c+x+y:=by omega
 generalize (c+x+y)%4294967296=z at *
 generalize (c+x+y)/4294967296=d at *
 grind
theorem zje {α:Type} (l:List α) (k:Nat) (h:l.length≤k):l.take (k+1)=l.take k:=by
 rw[List.take_of_length_le h,List.take_of_length_le (by omega)]
def zfj (m n:Nat):Int:=if m<n then -1 else if n<m then 1 else 0
theorem zkg {m n:Nat} (h:m<n):zfj m n= -1:=by simp[zfj,h]
theorem zul {m n:Nat} (h:n<m):zfj m n=1:=by unfold zfj;rw[if_neg (by omega),if_pos h]
theorem cmpN_eq {m n:Nat} (h:m=n):zfj m n=0:=by subst h;unfold zfj;rw[if_neg (by omega),if_neg (by omega)]
theorem zug {m n:Nat} (h:zda m<zda n):m<n:=Nat.lt_of_not_le fun h'=>by have:=zfb h';omega
theorem zag (l:List Nat) (k:Nat) (h:k<l.length):val l=val (l.take k)+pw k*l[k]+pw (k+1)*val (l.drop (k+1)):=by
 have e:val l=val (l.take (k+1)++l.drop (k+1)):=by rw[List.take_append_drop]
 rw[e,zac,List.length_take,Nat.min_eq_left (by omega),zia l k h]
theorem zde {a b:List Nat} (ha:Lm a) (k:Nat) (h1:k<a.length) (h2:k<b.length) (hd:a.drop (k+1)=b.drop (k+1)) (h:a[k]<b[k]):val a<val b:=by
 rw[zag a k h1,zag b k h2,hd]
 have h3:val (a.take k)<pw k:=by
  have:=zoe (l:=a.take k) (fun x hx=>ha x (List.mem_of_mem_take hx))
  rwa[List.length_take,Nat.min_eq_left (by omega)]at this
 have h4:pw k*(a[k]+1)≤pw k*b[k]:=Nat.mul_le_mul_left _ h
 rw[Nat.mul_add,Nat.mul_one]at h4
 omega
theorem zvm {a b:List Nat} (k:Nat) (h1:k<a.length) (h2:k<b.length) (hd:a.drop (k+1)=b.drop (k+1)) (h:a[k]=b[k]):a.drop k=b.drop k:=by
 rw[List.drop_eq_getElem_cons h1,List.drop_eq_getElem_cons h2,hd,h]
theorem sub_step {o a b:List Nat} {k bo x y z bo':Nat} (hk:k<o.length) (ha:val (a.take (k+1))=val (a.take k)+pw k*x) (hb:val (b.take (k+1))=val (b.take k)+pw k*y)
 (hz:z+bo+y=x+4294967296*bo') (hv:val (o.take k)+val (b.take k)=val (a.take k)+pw k*bo):
 val ((o.set k z).take (k+1))+val (b.take (k+1))=val (a.take (k+1))+pw (k+1)*bo':=by
 rw[zkb o k _ hk,ha,hb,zmb]
 grind
theorem val_set (l:List Nat) (i z:Nat) (h:i<l.length):val (l.set i z)+pw i*l[i]=val l+pw i*z:=by
 induction l generalizing i with
 | nil=>simp at h
 | cons x l ih=>
   cases i with
   | zero=>simp[val,zye];omega
   | succ i=>
     have:=ih i (by simpa using h)
     simp only[List.set_cons_succ,val,zmb,List.getElem_cons_succ]
     grind
theorem mul_step {o b:List Nat} {k j N R c x y z c':Nat} (hN:k+j<N) (hl:N≤o.length) (hb:val (b.take (j+1))=val (b.take j)+pw j*y)
 (hv:val (o.take N)+pw (k+j)*c=R+pw k*x*val (b.take j)) (hz:z+4294967296*c'=x*y+o[k+j]+c):
 val ((o.set (k+j) z).take N)+pw (k+(j+1))*c'=R+pw k*x*val (b.take (j+1)):=by
 have h1:=val_set (o.take N) (k+j) z (by simp;omega)
 rw[List.getElem_take]at h1
 rw[List.take_set,hb,←Nat.add_assoc,zmb]
 have e:=pw_add k j
 generalize val ((o.take N).set (k+j) z)=V' at *
 generalize val (o.take N)=V at *
 generalize o[k+j]=q at *
 generalize pw (k+j)=p at *
 subst e
 grind
theorem mul_end {o a b:List Nat} {k n N c x R:Nat} (hN:N<o.length) (ha:val (a.take (k+1))=val (a.take k)+pw k*x) (hn:val b=n) (hR:R=val (a.take k)*n)
 (hv:val (o.take N)+pw N*c=R+pw k*x*val (b.take b.length)):val ((o.set N c).take (N+1))=val (a.take (k+1))*n:=by
 rw[zkb o N c hN,hv,List.take_length,ha,hR,hn]
 grind
theorem zcl {x y q c:Nat} (hx:x<4294967296) (hy:y<4294967296) (hq:q<4294967296) (hc:c<4294967296):x*y+q+c<18446744073709551616∧x*y≤18446744065119617025:=by
 have h1:x*y≤4294967295*4294967295:=Nat.mul_le_mul (by omega) (by omega)
 omega
theorem zsg {x y:Nat} (hx:x<4294967296) (hy:y<4294967296):(0:Int)≤(x:Int)*y∧(x:Int)*y≤18446744065119617025:=by
 have h1:x*y≤4294967295*4294967295:=Nat.mul_le_mul (by omega) (by omega)
 have h2:((x*y:Nat):Int)≤18446744065119617025:=by omega
 rw[Int.natCast_mul]at h2
 exact⟨Int.mul_nonneg (by omega) (by omega),h2⟩
theorem div_lt_32 {t:Nat} (h:t<18446744073709551616):t/4294967296<4294967296:=by omega
theorem mul_cast (c x y q:Nat):(c:Int)+((x:Int)*y+q)=((x*y+q+c:Nat):Int):=by
 rw[Int.natCast_add,Int.natCast_add,Int.natCast_mul];omega
end Go.Proofs.Ytlpdkbmmbdfoiaa
namespace Go.Proofs.Ytlpdkbmmbdfoiaa
theorem zH {p : Prop} (h : p) : Go.RowKit.Hid p := h
open Go.RowKit
def base :Value→Addr
 | .slice (some a) _ _=>a
 | _=>⟨0,0,none⟩
def ptr (v:Value) (k:Nat):Addr:=(base v).add k
theorem add_add (a:Addr) (j k:Nat):(a.add j).add k=a.add (j+k):=by
 unfold Addr.add
 by_cases hj:j=0<;>by_cases hk:k=0<;>simp[hj,hk]
 omega
theorem ptr_add (v:Value) (j k:Nat):(ptr v j).add k=ptr v (j+k):=add_add _ _ _
theorem zsa (v:Value) (k:Nat):(ptr v k).block=(base v).block:=by
 unfold ptr Addr.add;split<;>rfl
def slen :Value→Nat
 | .slice _ n _=>n
 | _=>0
def scap :Value→Nat
 | .slice _ _ c=>c
 | _=>0
def zgc (v:Value):Prop:=
 ∃a n cap,v= .slice a n cap∧n≤cap∧cap≤maxLen∧(a=none→cap=0)
theorem zgc.nil :zgc (.slice none 0 0):=⟨none,0,0,rfl,Nat.le_refl _,by simp[maxLen],fun _=>rfl⟩
theorem zgc.le {v:Value} (h:zgc v):slen v≤scap v∧scap v≤9223372036854775807:=by
 obtain⟨a,n,cap,rfl,h1,h2,_⟩:=h;simp[maxLen]at h2;simp[slen,scap];omega
def tk (v:Value) (n:Nat):Value:=match v with
 | .slice a _ cap=> .slice a n cap
 | v=>v
def tk3 (v:Value) (n:Nat):Value:=match v with
 | .slice a _ _=> .slice a n n
 | v=>v
def cut (size:Nat) (v:Value) (lo hi:Nat):Value:=match v with
 | .slice a _ cap=> .slice (if cap=lo then a else a.map (·.add (lo*size))) (hi-lo) (cap-lo)
 | v=>v
theorem zgc.tk {v:Value} {m:Nat} (h:zgc v) (hm:m≤scap v):zgc (tk v m):=by
 obtain⟨a,n,cap,rfl,h1,h2,h3⟩:=h;exact⟨a,m,cap,rfl,hm,h2,h3⟩
theorem zgc.tk3 {v:Value} {m:Nat} (h:zgc v) (hm:m≤scap v):zgc (tk3 v m):=by
 obtain⟨a,n,cap,rfl,h1,h2,h3⟩:=h;simp only[scap]at hm;exact⟨a,m,m,rfl,Nat.le_refl _,by omega,fun e=>by have:=h3 e;omega⟩
theorem zgc.cut {v:Value} {size lo hi:Nat} (h:zgc v) (hl:lo≤hi) (hh:hi≤scap v):zgc (cut size v lo hi):=by
 obtain⟨a,n,cap,rfl,h1,h2,h3⟩:=h
 simp only[scap]at hh
 refine⟨_,_,cap-lo,rfl,by omega,by omega,fun e=> ?_⟩
 split at e
 ·omega
 ·have :a=none:=by cases a<;>simp_all
  have:=h3 this;omega
theorem zgc.slen_tk {v:Value} (h:zgc v) (m:Nat):slen (Go.Proofs.Ytlpdkbmmbdfoiaa.tk v m)=m:=by obtain⟨a,n,cap,rfl,_⟩:=h;rfl
theorem zgc.slen_tk3 {v:Value} (h:zgc v) (m:Nat):slen (Go.Proofs.Ytlpdkbmmbdfoiaa.tk3 v m)=m:=by obtain⟨a,n,cap,rfl,_⟩:=h;rfl
theorem zgc.slen_cut {v:Value} (h:zgc v) (size lo hi:Nat):slen (Go.Proofs.Ytlpdkbmmbdfoiaa.cut size v lo hi)=hi-lo:=by obtain⟨a,n,cap,rfl,_⟩:=h;rfl
@[simp] theorem base_tk (v : Value) (m : Nat) : base (tk v m) = base v := by cases v <;> first | rfl | (rename_i a n c; cases a <;> rfl)
@[simp] theorem base_tk3 (v : Value) (m : Nat) : base (tk3 v m) = base v := by cases v <;> first | rfl | (rename_i a n c; cases a <;> rfl)
@[simp, go_sem] theorem ptr_tk (v : Value) (m k : Nat) : ptr (tk v m) k = ptr v k := by simp [ptr]
@[simp, go_sem] theorem ptr_tk3 (v : Value) (m k : Nat) : ptr (tk3 v m) k = ptr v k := by simp [ptr]
theorem zwk {v:Value} {size lo hi k:Nat} (h:zgc v) (hh:lo<scap v):ptr (cut size v lo hi) k=ptr v (lo*size+k):=by
 obtain⟨a,n,cap,rfl,h1,h2,h3⟩:=h
 simp only[scap]at hh
 cases a with
 | none=>have:=h3 rfl;omega
 | some a=>
   simp only[cut,ptr]
   rw[if_neg (by omega)]
   simp only[base,Option.map_some,add_add]
section
variable {P:Program} (w:World)
@[go_sem ↓] theorem run_len_sl {t ty : TypeId} {v : Value} (h : zgc v) (ht : P.underlying t = some (.slice (P.elem t))) :
 (Builtin.len_ #[t] ty #[v]).run P w= .ok (.int .i64 (slen v)) w:=by
  obtain⟨a,n,cap,rfl,_⟩:=h
  simp[Builtin.len_,run_underlying ht,goInt,slen]
@[go_sem ↓] theorem run_index_sl {t : TypeId} {v : Value} {i : Int} (h : zgc v) (ht : P.underlying t = some (.slice (P.elem t))) :
 (Instr.indexAt t v (.int .i64 i)).run P w=
  if 0≤i∧i<slen v then((sizeOf (P.elem t)).run P w).andThen fun s w=> .ok (.pointer (some (ptr v (i.toNat*s)))) w
  else(boundsPanic .i64 i (slen v) .index).run P w:=by
  obtain⟨a,n,cap,rfl,hn,_,h3⟩:=h
  cases a with
  | none=>
    have:=h3 rfl
    obtain rfl:n=0:=by omega
    rw[if_neg (by simp only[slen];omega)]
    simp[Instr.indexAt,run_underlying ht,asIntOf,slen]
  | some a=>
    by_cases hc:0≤i∧i<((slen (.slice (some a) n cap):Nat):Int)
    ·have hc':0≤i∧i<(n:Int):=hc
     rw[if_pos hc];simp[Instr.indexAt,run_underlying ht,asIntOf,hc',ptr,base]
    ·have hc':¬ (0≤i∧i<(n:Int)):=hc
     rw[if_neg hc];simp[Instr.indexAt,run_underlying ht,asIntOf,hc',slen]
@[go_sem ↓] theorem run_slice_tk {t : TypeId} {v : Value} {m : Int} (h : zgc v) (ht : P.underlying t = some (.slice (P.elem t))) (h0 : 0 ≤ m) (h1 : m ≤ scap v) :
 (Instr.slice t v none (some (.int .i64 m)) none).run P w=((sizeOf (P.elem t)).run P w).andThen fun _ w=> .ok (tk v m.toNat) w:=by
  obtain⟨a,n,cap,rfl,hn,_,h3⟩:=h
  simp only[scap]at h1
  simp[Instr.slice,run_underlying ht,Instr.sliceBounds,Instr.sliceBound,asIntOf,h0,h1,tk]
  cases a<;>simp[Addr.add]
@[go_sem ↓] theorem run_slice_tk3 {t : TypeId} {v : Value} {m : Int} (h : zgc v) (ht : P.underlying t = some (.slice (P.elem t))) (h0 : 0 ≤ m) (h1 : m ≤ scap v) :
 (Instr.slice t v none (some (.int .i64 m)) (some (.int .i64 m))).run P w=((sizeOf (P.elem t)).run P w).andThen fun _ w=> .ok (tk3 v m.toNat) w:=by
  obtain⟨a,n,cap,rfl,hn,_,h3⟩:=h
  simp only[scap]at h1
  have e:(m.toNat:Int)=m:=Int.toNat_of_nonneg h0
  simp[Instr.slice,run_underlying ht,Instr.sliceBounds,Instr.sliceBound,asIntOf,h0,h1,e,tk3]
  cases a<;>simp[Addr.add]
def sliceElse (P:Program) (w:World) (t:TypeId) (v:Value) (lo hi:Value):Result Value:=(Instr.slice t v (some lo) (some hi) none).run P w
@[go_sem ↓] theorem run_slice_cut {t : TypeId} {v : Value} {lo hi : Int} (h : zgc v) (ht : P.underlying t = some (.slice (P.elem t))) :
 (Instr.slice t v (some (.int .i64 lo)) (some (.int .i64 hi)) none).run P w=
  if 0≤lo∧lo≤hi∧hi≤scap v then((sizeOf (P.elem t)).run P w).andThen fun s w=> .ok (cut s v lo.toNat hi.toNat) w else sliceElse P w t v (.int .i64 lo) (.int .i64 hi):=by
  obtain⟨a,n,cap,rfl,hn,_,h3⟩:=h
  by_cases hc:0≤lo∧lo≤hi∧hi≤(scap (.slice a n cap):Int)
  ·have hc':=hc
   obtain⟨h0,h1,h2⟩:=hc'
   simp only[scap]at h2
   rw[if_pos hc]
   have e:(hi.toNat:Int)=hi:=Int.toNat_of_nonneg (by omega)
   have h00:0≤hi:=by omega
   simp[Instr.slice,run_underlying ht,Instr.sliceBounds,Instr.sliceBound,asIntOf,h0,h1,h00,h2,e,cut]
  ·rw[if_neg hc];rfl
@[go_sem ↓] theorem run_sliceAt_any {t : TypeId} {v : Value} {lo hi mx : Option Value} (h : P.underlying t = some (.slice (P.elem t))) :
 (Instr.sliceAt t v lo hi mx).run P w=(Instr.slice t v lo hi mx).run P w:=by
  simp[Instr.sliceAt,run_underlying h]
end
theorem zka {B:Nat} (w:World) (k:Nat):Below B w (w.drewN k):=⟨rfl,rfl,rfl,Nat.le_refl _,fun _ _=>rfl⟩
structure zfc (w:World) (v:Value) (l:List Nat):Prop where
 sl:zgc v
 len:slen v=l.length
 cell:∀ (j:Nat) (h:j<l.length),w.cell? (ptr v j)=some (.int .u32 (l[j]:Nat))
 lm:Lm l
theorem zfc.nil (w:World):zfc w (.slice none 0 0) []:=⟨zgc.nil,rfl,fun j h=>by simp at h,fun x h=>by simp at h⟩
theorem zfc.below {w w':World} {v:Value} {l:List Nat} (h:zfc w v l) (hb:Below w.heap.size w w'):zfc w' v l:=
 ⟨h.sl,h.len,fun j hj=>by
  have hc:=h.cell j hj
  have hlt:=World.block_lt_of_cell? w _ hc
  rw[hb.cell hlt];exact hc,h.lm⟩
theorem zfc.tk {w:World} {v:Value} {l:List Nat} (h:zfc w v l) (n:Nat) (hn:n≤l.length):zfc w (tk v n) (l.take n):=by
 have e:(l.take n).length=n:=by simp;omega
 have:=h.sl.le
 have:=h.len
 refine⟨h.sl.tk (by omega),by rw[e];exact h.sl.slen_tk n,fun j hj=> ?_,fun x hx=>h.lm x (List.mem_of_mem_take hx)⟩
 have:=h.cell j (by omega)
 simp[this]
theorem zfc.tk3 {w:World} {v:Value} {l:List Nat} (h:zfc w v l) (n:Nat) (hn:n≤l.length):zfc w (tk3 v n) (l.take n):=by
 have e:(l.take n).length=n:=by simp;omega
 have:=h.sl.le
 have:=h.len
 refine⟨h.sl.tk3 (by omega),by rw[e];exact h.sl.slen_tk3 n,fun j hj=> ?_,fun x hx=>h.lm x (List.mem_of_mem_take hx)⟩
 have:=h.cell j (by omega)
 simp[this]
theorem zfc.cut {w:World} {v:Value} {l:List Nat} (h:zfc w v l) (lo hi:Nat) (hl:lo≤hi) (hh:hi≤l.length):zfc w (cut 1 v lo hi) ((l.drop lo).take (hi-lo)):=by
 have e:((l.drop lo).take (hi-lo)).length=hi-lo:=by simp;omega
 have:=h.sl.le
 have:=h.len
 refine⟨h.sl.cut hl (by omega),by rw[e];exact h.sl.slen_cut 1 lo hi,fun j hj=> ?_,fun x hx=>h.lm x (List.mem_of_mem_drop (List.mem_of_mem_take hx))⟩
 rw[zwk h.sl (by omega),Nat.mul_one,h.cell (lo+j) (by omega)]
 simp
theorem zfc.lt {w:World} {v:Value} {l:List Nat} (h:zfc w v l) (j:Nat) (hj:j<l.length):l[j]<4294967296:=h.lm _ (List.getElem_mem hj)
def zce (w:World) (e:TypeId) (B:Nat) (v:Value) (es:List Value):Prop:=w.ownsRow B e 1 v es.length es
section
variable {w:World} {e:TypeId} {B:Nat} {v:Value} {es:List Value}
theorem zce.nil (w:World) (e:TypeId) (B:Nat):zce w e B (.slice none 0 0) []:=World.ownsRow_nil w B e 1
theorem zce.sl (h:zce w e B v es):zgc v:=by
 rcases h.2 with⟨rfl,h0⟩ | ⟨g,cap,cur,rfl,hb,hg,hn,hm,hs,ht⟩
 ·exact zgc.nil
 ·exact⟨_,_,_,rfl,hn,hm,fun e=>by cases e⟩
theorem zce.len (h:zce w e B v es):slen v=es.length:=by
 rcases h.2 with⟨rfl,h0⟩ | ⟨g,cap,cur,rfl,hb,hg,hn,hm,hs,ht⟩
 ·rw[h0];rfl
 ·rfl
theorem zce.cell (h:zce w e B v es) (j:Nat) (hj:j<es.length):w.cell? (ptr v j)=some es[j]:=by
 rcases h.2 with⟨rfl,h0⟩ | ⟨g,cap,cur,rfl,hb,hg,hn,hm,hs,ht⟩
 ·omega
 ·have:=World.ownsRow.cellAt h j (by omega)
  simp only[ptr,base,Addr.add_lit,Nat.zero_add]
  rw[this,List.getElem?_eq_getElem hj]
theorem zce.frozen (h:zce w e B v es) (j:Nat) (hj:j<es.length):w.frozen? (ptr v j)=false:=by
 rcases h.2 with⟨rfl,h0⟩ | ⟨g,cap,cur,rfl,hb,hg,hn,hm,hs,ht⟩
 ·omega
 ·have:=World.ownsRow.frozenAt h j
  simpa only[ptr,base,Addr.add_lit,Nat.zero_add]using this
theorem zce.block (h:zce w e B v es) (hj:0<es.length):B≤(base v).block∧(base v).block<w.heap.size:=by
 rcases h.2 with⟨rfl,h0⟩ | ⟨g,cap,cur,rfl,hb,hg,hn,hm,hs,ht⟩
 ·omega
 ·exact⟨hb,(Array.getElem?_eq_some_iff.1 hg).1⟩
theorem zna {w w':World} {row:Option Nat} {B:Nat} (hg:w.grownBy w' row) (hB:B≤w.heap.size) (hr:∀k,row=some k→B≤k):Below B w w':=
 (Below.refl B w).grown hg hB hr
theorem zze {w w':World} (h:Below w.heap.size w w'):w.grownBy w' none:=
 ⟨h.os,h.tape,h.output,h.size,fun k hk _=>h.block k hk⟩
theorem zce.below {w':World} (h:zce w e B v es) (hb:Below w.heap.size w w'):zce w' e B v es:=
 World.ownsRow.kept h (zze hb) (by cases hv:v.ownBlock<;>simp)
theorem zce.alloc (h:zce w e B v es) (o:Obj):zce (w.alloc o) e B v es:=World.ownsRow.alloc h o
theorem zce.set (h:zce w e B v es) (j:Nat) (hj:j<es.length) (u:Value):zce (w.setCell (ptr v j) u) e B v (es.set j u)∧Below B w (w.setCell (ptr v j) u):=by
 have hbl:=h.block (by omega)
 rcases h.2 with⟨rfl,h0⟩ | ⟨g,cap,cur,rfl,hb,hg,hn,hm,hs,ht⟩
 ·omega
 ·have hs:=World.ownsRow.stored h j u
  simp only[ptr,base,Addr.add_lit,Nat.zero_add]
  refine⟨?_,zna hs.2 (by simp only[base]at hbl;omega) (fun k hk=>by simp at hk;omega)⟩
  have:=hs.1
  unfold zce
  rw[List.length_set]
  exact this
theorem zce.other (h:zce w e B v es) (p:Addr) (u:Value) (hp:p.block≠(base v).block):zce (w.setCell p u) e B v es:=by
 refine⟨h.1,?_⟩
 rcases h.2 with⟨rfl,h0⟩ | ⟨g,cap,cur,rfl,hb,hg,hn,hm,hs,ht⟩
 ·exact .inl ⟨rfl,h0⟩
 ·refine .inr ⟨g,cap,cur,rfl,hb,?_,hn,hm,hs,ht⟩
  simp only[base]at hp
  rw[Below.heap_setCell _ _ _ _ (fun e=>hp e.symm)];exact hg
theorem zce.mono {B':Nat} (h:zce w e B v es) (hB:B'≤B):zce w e B' v es:=by
 refine⟨h.1,?_⟩
 rcases h.2 with⟨rfl,h0⟩ | ⟨g,cap,cur,rfl,hb,rest⟩
 ·exact .inl ⟨rfl,h0⟩
 ·exact .inr ⟨g,cap,cur,rfl,by omega,rest⟩
end
theorem zjh {P:Program} (w:World) {ops:Array Oper} {rest:List Oper} {o:Oper} {a:Act} {Q:Exit→Act→World→Prop}
 (hg:o.guard=none) (l c:Operand) (t:TypeId) (hop:o.op=Op.makeSlice t l c)
 (B:Nat) (e:TypeId) (i:TypeInfo) (z:Value) (h1:P.underlying t=some (.slice e)) (h2:P.info? e=some i) (h3:i.zero=some z) (h4:i.size=1) (hz1:z.cells=#[z])
 (n:Nat) (hl:a.eval l= .int .i64 n) (hc:a.eval c= .int .i64 n) (b2:i.bytes*n≤281474976710656) (b3:n≤maxLen) (b4:B≤w.heap.size)
 (hK:∀v w',zce w' e B v (List.replicate n z)→Below w.heap.size w w'→w.heap.size≤(base v).block→wpList P ops Q rest (a.put o.dst v) w'):
 wpList P ops Q (o::rest) a w:=by
 refine wpList_make_full w hg l c t hop B e i z 1 h1 h2 h3 h4 .i64 .i64 n n n hl hc rfl rfl b2 b3 b4 ?_
 intro w' hown hgr
 refine hK _ w' ?_ (zna hgr (Nat.le_refl _) (fun k hk=>by cases hk)) (by simp[base])
 have :(madeCells z.cells (n*1)).toList=List.replicate n z:=by rw[hz1,Nat.mul_one,toList_madeCells_one]
 rw[this]at hown
 unfold zce
 rw[List.length_replicate]
 exact hown
theorem zlj {P:Program} (w:World) (B:Nat) (t ty e:TypeId) (i:TypeInfo) (z:Value) (bytes:Nat) (ht:P.underlying t=some (.slice e)) (hi:P.info? e=some i) (hz:i.zero=some z)
 (hsize:i.size=1) (hby:i.bytes=bytes) (hzs:z.cells.size=1)
 (v:Value) (es:List Value) (hown:zce w e B v es) (x:Value) (hx:zgc x) (news:List Value) (hlen:slen x=news.length)
 (hnews:∀j (hj:j<news.length),w.cell? (ptr x j)=some news[j]) (h1:∀u∈news,u.oneCell'=true)
 (h63:es.length+news.length≤maxLen) (hbytes:(es.length+news.length)*bytes≤140737488355328) (hbase:B≤w.heap.size):
 ∃v' w',(Builtin.append_ #[t,t] ty #[v,x]).run P w= .ok v' w'∧zce w' e B v' (es++news)∧w.grownBy w' v.ownBlock:=by
 obtain⟨a,n,cap,rfl,hnc,hcm,hnil⟩:=hx
 simp only[slen]at hlen
 subst hlen
 cases a with
 | none=>
   have:=hnil rfl
   obtain rfl:cap=0:=this
   have hn:news= []:=List.eq_nil_of_length_eq_zero (by omega)
   subst hn
   refine⟨v,w,run_append_owned_none w B t ty e i 1 ht hi v es.length es hown,?_,⟨rfl,rfl,rfl,Nat.le_refl _,fun _ _ _=>rfl⟩⟩
   rw[List.append_nil];exact hown
 | some a=>
   obtain⟨v',w',h2,h3,h4,_⟩:=run_append_own (P:=P) w B t ty e i z 1 bytes ht hi hz hsize hby hzs (by omega) v es.length es hown a news.length cap news (by omega)
    (fun j u hu=>by
     have hj:j<news.length:=(List.getElem?_eq_some_iff.1 hu).1
     have:=hnews j hj
     simp only[ptr,base]at this
     rw[this];rw[List.getElem?_eq_getElem hj]at hu;exact hu) h1 h63 hbytes hbase
   refine⟨v',w',h2,?_,h4⟩
   unfold zce
   rw[List.length_append]
   exact h3
theorem zce.ownBlock {w:World} {e:TypeId} {B:Nat} {v:Value} {es:List Value} (h:zce w e B v es):∀k,v.ownBlock=some k→B≤k:=fun k hk=>(World.ownsRow.lt h k hk).1
theorem zie {P:Program} (w:World) {ops:Array Oper} {rest:List Oper} {o:Oper} {a:Act} {Q:Exit→Act→World→Prop} (hgd:o.guard=none) (s x:Operand) (t:TypeId)
 (ho:o.op= .call { callee:= .builtin .append,args:=#[s,x],argTypes:=#[t,t] })
 (B:Nat) (e:TypeId) (i:TypeInfo) (z:Value) (bytes:Nat) (ht:P.underlying t=some (.slice e)) (hi:P.info? e=some i) (hz:i.zero=some z)
 (hsize:i.size=1) (hby:i.bytes=bytes) (hzs:z.cells.size=1)
 (v:Value) (es:List Value) (hs:a.eval s=v) (hown:zce w e B v es) (xv:Value) (hxe:a.eval x=xv) (hx:zgc xv) (news:List Value) (hlen:slen xv=news.length)
 (hnews:∀j (hj:j<news.length),w.cell? (ptr xv j)=some news[j]) (h1:∀u∈news,u.oneCell'=true)
 (h63:es.length+news.length≤maxLen) (hbytes:(es.length+news.length)*bytes≤140737488355328) (hbase:B≤w.heap.size)
 (h:∀v' w',zce w' e B v' (es++news)→w.grownBy w' v.ownBlock→Below B w w'→wpList P ops Q rest (a.put o.dst v') w'):wpList P ops Q (o::rest) a w:=by
 refine wpList_plain hgd fun K hK=> ?_
 obtain⟨v',w',hr,h2,h3⟩:=zlj (P:=P) w B t o.type e i z bytes ht hi hz hsize hby hzs v es hown xv hx news hlen hnews h1 h63 hbytes hbase
 unfold Oper.wp execOp
 simp only[ho,resolve,invoke,builtin,Sem.run_bind,Sem.run_pure,Result.andThen_ok,List.map_toArray,List.map_cons,List.map_nil,hs,hxe,hr]
 exact hK _ _ (h v' w' h2 h3 (zna h3 hbase hown.ownBlock))
theorem zsj {P:Program} (w0:World) {ops:Array Oper} {rest:List Oper} {o:Oper} {a:Act} {Q:Exit→Act→World→Prop} (hgd:o.guard=none) (s x:Operand) (t:TypeId)
 (ho:o.op= .call { callee:= .builtin .append,args:=#[s,x],argTypes:=#[t,t] })
 (B:Nat) (e e':TypeId) (i:TypeInfo) (z:Value) (bytes:Nat) (ht:P.underlying t=some (.slice e)) (hi:P.info? e=some i) (hz:i.zero=some z)
 (hsize:i.size=1) (hby:i.bytes=bytes) (hzs:z.cells.size=1)
 (v:Value) (es:List Value) (hs:a.eval s=v) (hown:zce w0 e B v es) (u:Value) (hxe:a.eval x= .slice (some ⟨w0.heap.size,0,none⟩) 1 1) (h1:u.oneCell'=true)
 (h63:es.length+1≤maxLen) (hbytes:(es.length+1)*bytes≤140737488355328) (hbase:B≤w0.heap.size)
 (h:∀v' w',zce w' e B v' (es++ [u])→Below B w0 w'→wpList P ops Q rest (a.put o.dst v') w'):wpList P ops Q (o::rest) a (w0.alloc (.cells #[u] e')):=by
 refine zie (w0.alloc (.cells #[u] e')) hgd s x t ho B e i z bytes ht hi hz hsize hby hzs v es hs (hown.alloc _) _ hxe ⟨_,1,1,rfl,Nat.le_refl _,by simp[maxLen],fun e=>by cases e⟩ [u] rfl
  (fun j hj=> ?_) (fun u' hu'=>by simp at hu';subst hu';exact h1) h63 hbytes (by simp;omega) (fun v' w' h2 _ h3=>h v' w' h2 (((Below.refl B w0).alloc hbase _).trans h3))
 have hj0:j=0:=by simp at hj;omega
 subst hj0
 simp[ptr,base,Addr.add]
def u32V (x:Nat):Value:= .int .u32 (x:Nat)
structure zcc (w:World) (e:TypeId) (B:Nat) (v:Value) (o:List Nat):Prop where
 own:zce w e B v (o.map u32V)
 lm:Lm o
section
variable {w:World} {e:TypeId} {B:Nat} {v:Value} {o:List Nat}
theorem zcc.nil (w:World) (e:TypeId) (B:Nat):zcc w e B (.slice none 0 0) []:=⟨zce.nil w e B,fun x h=>by simp at h⟩
theorem zcc.nat (h:zcc w e B v o):zfc w v o:=
 ⟨h.own.sl,by rw[h.own.len,List.length_map],fun j hj=>by rw[h.own.cell j (by simpa using hj)];simp[u32V],h.lm⟩
theorem zcc.below {w':World} (h:zcc w e B v o) (hb:Below w.heap.size w w'):zcc w' e B v o:=⟨h.own.below hb,h.lm⟩
theorem zcc.frozen (h:zcc w e B v o) (j:Nat) (hj:j<o.length):w.frozen? (ptr v j)=false:=h.own.frozen j (by simpa using hj)
theorem zcc.block (h:zcc w e B v o) (hj:0<o.length):B≤(base v).block∧(base v).block<w.heap.size:=h.own.block (by simpa using hj)
theorem Lm.set {o:List Nat} (h:Lm o) (j x:Nat) (hx:x<4294967296):Lm (o.set j x):=fun y hy=>by
 rcases List.mem_or_eq_of_mem_set hy with h' | h'
 ·exact h y h'
 ·omega
theorem Lm.append {o p:List Nat} (h:Lm o) (h':Lm p):Lm (o++p):=fun y hy=>(List.mem_append.1 hy).elim (h y) (h' y)
theorem Lm.one {x:Nat} (h:x<4294967296):Lm [x]:=fun y hy=>by simp at hy;omega
theorem Lm.take {o:List Nat} (h:Lm o) (k:Nat):Lm (o.take k):=fun y hy=>h y (List.mem_of_mem_take hy)
theorem Lm.drop {o:List Nat} (h:Lm o) (k:Nat):Lm (o.drop k):=fun y hy=>h y (List.mem_of_mem_drop hy)
theorem Lm.replicate (n:Nat):Lm (List.replicate n 0):=fun y hy=>by have:=List.eq_of_mem_replicate hy;omega
theorem zcc.set (h:zcc w e B v o) (j:Nat) (hj:j<o.length) (x:Nat) (hx:x<4294967296):
 zcc (w.setCell (ptr v j) (.int .u32 (x:Nat))) e B v (o.set j x)∧Below B w (w.setCell (ptr v j) (.int .u32 (x:Nat))):=by
 have:=h.own.set j (by simpa using hj) (u32V x)
 refine⟨⟨?_,h.lm.set j x hx⟩,this.2⟩
 rw[List.map_set];exact this.1
end
theorem zkj {P:Program} (t e:TypeId) (i:TypeInfo) (ht:P.underlying t=some (.slice e)) (hi:P.info? e=some i) (hz:i.zero=some (.int .u32 0))
 (hsize:i.size=1) (hby:i.bytes=4) (w:World) {ops:Array Oper} {rest:List Oper} {o:Oper} {a:Act} {Q:Exit→Act→World→Prop} (hgd:o.guard=none) (s x:Operand)
 (ho:o.op= .call { callee:= .builtin .append,args:=#[s,x],argTypes:=#[t,t] }) (B:Nat)
 (v:Value) (es:List Nat) (hs:a.eval s=v) (hown:zcc w e B v es) (xv:Value) (hxe:a.eval x=xv) (l:List Nat) (hx:zfc w xv l) (hb:es.length+l.length≤35184372088832) (hbase:B≤w.heap.size)
 (h:∀v' w',zcc w' e B v' (es++l)→w.grownBy w' v.ownBlock→Below B w w'→wpList P ops Q rest (a.put o.dst v') w'):wpList P ops Q (o::rest) a w:=by
 refine zie w hgd s x t ho B e i (.int .u32 0) 4 ht hi hz hsize hby rfl v (es.map u32V) hs hown.own xv hxe hx.sl (l.map u32V) (by rw[hx.len,List.length_map])
  (fun j hj=>by rw[hx.cell j (by simpa using hj)];simp[u32V]) (fun u hu=>by obtain⟨x,_,rfl⟩:=List.mem_map.1 hu;rfl)
  (by simp[maxLen];omega) (by simp;omega) hbase ?_
 intro v' w' h2 h3 h4
 exact h v' w' ⟨by rw[List.map_append];exact h2,hown.lm.append hx.lm⟩ h3 h4
theorem zuf {P:Program} (t e:TypeId) (i:TypeInfo) (ht:P.underlying t=some (.slice e)) (hi:P.info? e=some i) (hz:i.zero=some (.int .u32 0))
 (hsize:i.size=1) (hby:i.bytes=4) (w0:World) {ops:Array Oper} {rest:List Oper} {o:Oper} {a:Act} {Q:Exit→Act→World→Prop} (hgd:o.guard=none) (s x:Operand)
 (ho:o.op= .call { callee:= .builtin .append,args:=#[s,x],argTypes:=#[t,t] }) (B:Nat) (e':TypeId)
 (v:Value) (es:List Nat) (hs:a.eval s=v) (hown:zcc w0 e B v es) (u:Int) (y:Nat) (hu:u=y) (hy:y<4294967296) (hxe:a.eval x= .slice (some ⟨w0.heap.size,0,none⟩) 1 1) (hb:es.length+1≤35184372088832) (hbase:B≤w0.heap.size)
 (h:∀v' w',zcc w' e B v' (es++ [y])→Below B w0 w'→wpList P ops Q rest (a.put o.dst v') w'):wpList P ops Q (o::rest) a (w0.alloc (.cells #[.int .u32 u] e')):=by
 subst hu
 refine zsj w0 hgd s x t ho B e e' i (.int .u32 0) 4 ht hi hz hsize hby rfl v (es.map u32V) hs hown.own (u32V y) hxe rfl (by simp[maxLen];omega) (by simp;omega) hbase ?_
 intro v' w' h2 h4
 exact h v' w' ⟨by rw[List.map_append];exact h2,hown.lm.append (Lm.one hy)⟩ h4
theorem zmd {P:Program} (t e:TypeId) (i:TypeInfo) (h1:P.underlying t=some (.slice e)) (h2:P.info? e=some i) (h3:i.zero=some (.int .u32 0)) (h4:i.size=1) (h5:i.bytes=4)
 (w:World) {ops:Array Oper} {rest:List Oper} {o:Oper} {a:Act} {Q:Exit→Act→World→Prop} (hg:o.guard=none) (l c:Operand) (hop:o.op=Op.makeSlice t l c)
 (B:Nat) (u:Int) (n:Nat) (hu:u=n) (hl:a.eval l= .int .i64 u) (hc:a.eval c= .int .i64 u) (b2:n≤35184372088832) (b4:B≤w.heap.size)
 (hK:∀v w',zcc w' e B v (List.replicate n 0)→Below w.heap.size w w'→w.heap.size≤(base v).block→wpList P ops Q rest (a.put o.dst v) w'):
 wpList P ops Q (o::rest) a w:=by
 subst hu
 refine zjh w hg l c t hop B e i (.int .u32 0) h1 h2 h3 h4 rfl n hl hc (by rw[h5];omega) (by simp[maxLen];omega) b4 ?_
 intro v w' a1 a2 a3
 exact hK v w' ⟨by rw[List.map_replicate];exact a1,Lm.replicate n⟩ a2 a3
theorem zjc {P:Program} {ops:Array Oper} {o:Oper} {a:Act} {w:World} {K:Act→World→Prop} {Q:Exit→Act→World→Prop} {E:Prop} (hg:o.guard=none) (f:FuncId) (argv:Array Value)
 (hrun:(execOp a.eval o).run P w= .ok (.enter f argv) w) {R:Ending→World→Prop} (hc:Calls P f argv w R) (h:∀e w',R e w'→∃v,e= .returned v∧K (a.put o.dst v) w'):
 if Region.wanted o (yielded ops a.tmps)=true then Oper.wp P o a w K Q else E:=by
 rw[if_pos (by simp[Region.wanted,hg])]
 unfold Oper.wp
 rw[hrun,Oper.upon_enter]
 refine hc.mono fun e w' hr=> ?_
 obtain⟨v,rfl,hk⟩:=h e w' hr
 exact hk
section
variable {P:Program} {md:Region.Mode} {ops:Array Oper} {Q:Exit→Act→World→Prop} {S:World→Prop} {need:List Nat}
def wpN (P:Program) (md:Region.Mode) (ops:Array Oper) (Q:Exit→Act→World→Prop) (S:World→Prop) (need:List Nat):Nat→Array Bool→Act→World→Prop
 | 0,l,a,w=>Region.ready md ops l= []∧Q .normal a w
 | k+1,l,a,w=>(Region.ready md ops l= []→Q .normal a w)∧∀i∈Region.ready md ops l,wpOp P ops Q i (fun b v=>(need.contains i=false→S v)∧wpN P md ops Q S need k (l.setIfInBounds i true) b v) a w
theorem wpN.any :∀ (k:Nat) (l:Array Bool) (a:Act) (w:World),wpN P md ops Q S need k l a w→wpAny P md ops Q k l a w
 | 0,_,_,_,h=>h
 | k+1,_,_,_,h=>⟨h.1,fun i hi=>wpOp_mono (fun b v g=>wpN.any k _ b v g.2) (h.2 i hi)⟩
def waitT (md:Region.Mode) (ops:Array Oper) (i:Nat):Nat→Nat→Bool
 | 0,_=>false
 | k+1,j=>match ops[j]? with
   | none=>false
   | some o=>o.after.any fun e=>Region.binds md e&&(e.on==i || waitT md ops i k e.on)
def waitB (md:Region.Mode) (ops:Array Oper) (need:List Nat) (i:Nat):Bool:=need.all fun j=>waitT md ops i 14 j
def shutB (md:Region.Mode) (ops:Array Oper) (l:Array Bool):Bool:=
 (List.range ops.size).all fun j=> !l.getD j false || match ops[j]? with
  | none=>true
  | some o=>o.after.all fun e=> !Region.binds md e || l.getD e.on false
def Shut (md:Region.Mode) (ops:Array Oper) (l:Array Bool):Prop:=∀ (j:Nat) (o:Oper),ops[j]? =some o→l.getD j false=true→∀e∈o.after,Region.binds md e=true→l.getD e.on false=true
theorem zri {l:Array Bool} (h:shutB md ops l=true):Shut md ops l:=by
 intro j o ho hl e he hb
 have hj:j<ops.size:=(Array.getElem?_eq_some_iff.1 ho).1
 have h1:=List.all_eq_true.1 h j (List.mem_range.2 hj)
 rw[ho,hl]at h1
 simp only[Bool.not_true,Bool.false_or]at h1
 have h2:=Array.all_eq_true_iff_forall_mem.1 h1 e he
 rw[hb]at h2
 simpa using h2
theorem Shut.set {l:Array Bool} (h:Shut md ops l) {i:Nat} (hi:i∈Region.ready md ops l):Shut md ops (l.setIfInBounds i true):=by
 intro j o ho hl e he hb
 by_cases hij:i=j
 ·subst hij
  obtain⟨_,p,hp,hall⟩:=mem_ready.1 hi
  rw[ho]at hp
  injection hp with hp
  subst hp
  exact getD_set_true (hall e he hb)
 ·rw[getD_set_ne false hij]at hl
  exact getD_set_true (h j o ho hl e he hb)
theorem zng {i:Nat} {l:Array Bool} (hs:Shut md ops l):∀ (k j:Nat) (o:Oper),waitT md ops i k j=true→ops[j]? =some o→(∀e∈o.after,Region.binds md e=true→l.getD e.on false=true)→l.getD i false=true
 | 0,_,_,h,_,_=>by cases h
 | k+1,j,o,h,ho,hall=>by
   rw[waitT,ho]at h
   obtain⟨e,he,h2⟩:=Array.any_eq_true'.1 h
   simp only[Bool.and_eq_true,Bool.or_eq_true,beq_iff_eq]at h2
   obtain⟨hb,h3⟩:=h2
   have hl:=hall e he hb
   rcases h3 with h3 | h3
   ·rw[←h3];exact hl
   ·cases hp:ops[e.on]? with
    | none=>
      cases k with
      | zero=>cases h3
      | succ k=>rw[waitT,hp]at h3;cases h3
    | some p=>exact zng hs k e.on p h3 hp (hs e.on p hp hl)
theorem zqg {i:Nat} {l:Array Bool} (h1:l.getD i false=true) (h0:l.getD i true=false):False:=by
 rcases Nat.lt_or_ge i l.size with h' | h'
 ·simp[h']at h0 h1;rw[h0]at h1;cases h1
 ·simp[Array.getElem?_eq_none h']at h1
theorem zeh {i j:Nat} {o:Oper} {l:Array Bool} (hj:j∈Region.ready md ops l) (hi:i∈Region.ready md ops l) (ho:ops[j]? =some o):∀e∈o.after,Region.binds md e=true→e.on≠i:=by
 intro e he hb heq
 obtain⟨_,o',ho',hall⟩:=mem_ready.1 hj
 rw[ho]at ho'
 injection ho' with ho'
 subst ho'
 have h1:=hall e he hb
 rw[heq]at h1
 exact zqg h1 (mem_ready.1 hi).1
theorem wpN.first {i:Nat} {o:Oper} {v:Value} (hi:ops[i]? =some o) (hs:Region.noSelect ops=true) (hw:waitB md ops need i=true) (hQ:∀c a w,Q (.panic c) (a.put o.dst v) w→Q (.panic c) a w):
 ∀ (k:Nat) (l:Array Bool) (a:Act) (w:World),Shut md ops l→(∀j p,ops[j]? =some p→j≠i→l.getD j true=false→(∀e∈p.after,Region.binds md e=true→e.on≠i)→o.apart ops p=true)→
  i∈Region.ready md ops l→YieldsIf P ops S o v a→S w→wpN P md ops Q S need k (l.setIfInBounds i true) (a.put o.dst v) w→wpN P md ops Q S need (k+1) l a w
 | 0,l,a,w,_,_,hr,hy,hS,H=>by
   refine⟨(fun h=>by rw[h]at hr;cases hr),fun j hj=> ?_⟩
   by_cases e:j=i
   ·subst e;exact hy.wpOp hi hS ⟨fun _=>hS,H⟩
   ·have h1:=ready_mono hj e
    rw[H.1]at h1
    cases h1
 | k+1,l,a,w,hsh,hfr,hr,hy,hS,H=>by
   refine⟨(fun h=>by rw[h]at hr;cases hr),fun j hj=> ?_⟩
   by_cases e:j=i
   ·subst e;exact hy.wpOp hi hS ⟨fun _=>hS,H⟩
   ·obtain⟨hun,p,hp,_⟩:=mem_ready.1 hj
    have hno:=zeh hj hr hp
    have hnd:need.contains j=false:=by
     cases hc:need.contains j with
     | false=>rfl
     | true=>
       obtain⟨_,p',hp',hall⟩:=mem_ready.1 hj
       exact(zqg (zng hsh 14 j p' (List.all_eq_true.1 hw j (by simpa using hc)) hp' hall) (mem_ready.1 hr).1).elim
    have hsel:=fun(j:Nat) (o:Oper) cs b (h:ops[j]? =some o)=>Region.noSelect_spec hs j o cs b h
    have h2:=wpOp_putIf hp (hfr j p hp e hun hno) (fun cs b=>hsel i o cs b hi) (fun cs b=>hsel j p cs b hp) hQ hy (H.2 j (ready_mono hj e))
    refine wpOp_mono (fun b u g=>⟨fun _=>g.2.1 hnd,wpN.first hi hs hw hQ k (l.setIfInBounds j true) b u (hsh.set hj) ?_ (ready_mono hr (Ne.symm e)) g.1 (g.2.1 hnd) ?_⟩) h2
    ·intro x q hq hxi hxl hxw
     refine hfr x q hq hxi ?_ hxw
     by_cases hjx:j=x
     ·subst hjx;exact hun
     ·rwa[getD_set_ne true hjx]at hxl
    ·rw[Array.setIfInBounds_comm _ _ e]
     exact g.2.2
theorem wpN.take (i:Nat) {fuel:Nat} {l:Array Bool} {a:Act} {w:World} (hs:Region.noSelect ops=true) (hw:waitB md ops need i=true) (hc:shutB md ops l=true) (hf:Region.free md ops l i=true) (hr:(Region.ready md ops l).contains i=true) (hS:S w) (hi:(ops[i]?).isSome=true)
 (h:∀o,ops[i]? =some o→∃v,(∀c a w,Q (.panic c) (a.put o.dst v) w→Q (.panic c) a w)∧YieldsIf P ops S o v a∧wpN P md ops Q S need fuel (l.setIfInBounds i true) (a.put o.dst v) w):wpN P md ops Q S need (fuel+1) l a w:=by
 obtain⟨o,ho⟩:=Option.isSome_iff_exists.1 hi
 obtain⟨v,h1,h2,h3⟩:=h o ho
 exact wpN.first ho hs hw h1 fuel l a w (zri hc) (Region.free_spec ho hf) (by simpa using hr) h2 hS h3
theorem wpN.one (k:Nat) {fuel:Nat} {l:Array Bool} {a:Act} {w:World} (hr:Region.ready md ops l= [k]) (hi:(ops[k]?).isSome=true)
 (h:∀o,ops[k]? =some o→∀K:Act→World→Prop,Hid (∀b v,(need.contains k=false→S v)→wpN P md ops Q S need fuel (l.setIfInBounds k true) b v→K b v)→if Region.wanted o (yielded ops a.tmps)=true then o.wp P a w K Q else K (a.put o.dst undef) w):wpN P md ops Q S need (fuel+1) l a w:=by
 obtain⟨o,ho⟩:=Option.isSome_iff_exists.1 hi
 refine⟨(fun h0=>by rw[hr]at h0;cases h0),fun j hj=> ?_⟩
 rw[hr]at hj
 obtain rfl:j=k:=by simpa using hj
 have h1:=h o ho _ (zH fun b v h2 h3=>(⟨h2,h3⟩:(need.contains j=false→S v)∧_))
 unfold wpOp
 simp only[ho]
 by_cases hw:Region.wanted o (yielded ops a.tmps)=true
 ·rw[if_pos hw]at h1 ⊢
  exact Or.inl h1
 ·rw[if_neg hw]at h1 ⊢
  exact h1
theorem wpN.done {l:Array Bool} {a:Act} {w:World} (hr:Region.ready md ops l= []) (h:Q .normal a w):∀fuel,wpN P md ops Q S need fuel l a w
 | 0=>⟨hr,h⟩
 | _+1=>⟨fun _=>h,by rw[hr];simp⟩
theorem wpN.start {id:Nat} {a:Act} {w:World} (need:List Nat) (S:World→Prop) (hm:P.follows .mixedOrders=true) (hS:S w.drew) (h:S w.drew→wpN P .any ops Q S need ops.size (Array.replicate ops.size false) a w.drew):(Code.region id ops true).wp P Q a w:=
 wp_region_any hm (wpN.any _ _ _ _ (h hS))
end
section
variable {P:Program} {md:Region.Mode} {ops:Array Oper} {Q:Exit→Act→World→Prop} {S:World→Prop} {need:List Nat} {fuel:Nat} {l l':Array Bool} {a a':Act} {w:World} {o:Oper} {v:Value}
theorem wpN.t (i:Nat) (h:wpN P md ops Q S need fuel l' a' w) (ho:ops[i]? =some o:=by(simp only[List.getElem?_toArray,List.getElem?_cons_succ,List.getElem?_cons_zero];rfl)) (hs:Region.noSelect ops=true:=by kernel_rfl) (hw:waitB md ops need i=true:=by kernel_rfl) (hc:shutB md ops l=true:=by kernel_rfl) (hf:Region.free md ops l i=true:=by kernel_rfl) (hr:(Region.ready md ops l).contains i=true:=by kernel_rfl) (hS:S w:=by assumption)
 (hQ:∀c a w,Q (.panic c) (a.put o.dst v) w→Q (.panic c) a w:=by exact fun _ _ _ h=>h) (hy:YieldsIf P ops S o v a:=by first | exact Or.inr ⟨by rfl,rfl⟩ | (refine Or.inl ⟨by rfl,?_⟩;intro w hSw;(try dsimp only at hSw);go_simp;try with_reducible rfl))
 (hl:l.setIfInBounds i true=l':=by((try simp only[List.setIfInBounds_toArray,List.set_cons_zero,List.set_cons_succ]);rfl)) (ha:a.put o.dst v=a':=by(simp only[Act.put,List.setIfInBounds_toArray,List.set_cons_zero,List.set_cons_succ];rfl)):wpN P md ops Q S need (fuel+1) l a w:=by
 subst hl ha
 exact wpN.first ho hs hw hQ fuel l a w (zri hc) (Region.free_spec ho hf) (by simpa using hr) hy hS h
theorem wpN.oo (k:Nat) (h:∀K:Act→World→Prop,Hid (∀b v,(need.contains k=false→S v)→wpN P md ops Q S need fuel (l.setIfInBounds k true) b v→K b v)→if Region.wanted o (yielded ops a.tmps)=true then o.wp P a w K Q else K (a.put o.dst undef) w)
 (ho:ops[k]? =some o:=by(simp only[List.getElem?_toArray,List.getElem?_cons_succ,List.getElem?_cons_zero];rfl)) (hr:Region.ready md ops l= [k]:=by kernel_rfl):wpN P md ops Q S need (fuel+1) l a w:=
 wpN.one k hr (by rw[ho];rfl) fun o' h'=>by rw[ho]at h';injection h' with h';subst h';exact h
end
end Go.Proofs.Ytlpdkbmmbdfoiaa
