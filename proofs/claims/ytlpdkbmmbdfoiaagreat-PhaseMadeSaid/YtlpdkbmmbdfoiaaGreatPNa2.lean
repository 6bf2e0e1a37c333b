/- Lemmas. -/
import Derived.WalkSpells
import Derived.WalkLawsBesides
import Derived.BigQuiet
import Derived.Lib.Hide
import Derived.Laws.AppendOwnNone
import Derived.Test.YtlpdkbmmbdfoiaaGreatProg
set_option linter.unusedVariables false
set_option linter.unusedSimpArgs false
namespace Go.Proofs.YtlpdkbmmbdfoiaaGreat
def val :List Nat->Nat
 | []=>0
 | x::l=>x+4294967296*val l
def Lm (l:List Nat):Prop:=∀x∈l,x<4294967296
def clen :List Nat->Nat
 | []=>0
 | x::l=>if clen l=0 then(if x=0 then 0 else 1)else clen l+1
theorem zcm (l:List Nat):clen l<=l.length:=by
 induction l with
 | nil=>simp[clen]
 | cons x l ih=>simp only[clen,List.length_cons];split<;>(try split)<;>omega
theorem clen_snoc (l:List Nat) (x:Nat):clen (l++ [x])=if x=0 then clen l else l.length+1:=by
 induction l with
 | nil=>simp[clen]
 | cons y l ih=>
   simp only[List.cons_append,clen,ih,List.length_cons];by_cases hx:x=0
   ·simp[hx]
   ·simp[hx]
theorem zxc {α:Type} (l:List α) (k:Nat) (h:k<l.length):l.take (k+1)=l.take k++ [l[k]]:=by
 rw[List.take_succ_eq_append_getElem h]
theorem zsg (l:List Nat) (k:Nat) (h:k<l.length) (h0:l[k]=0):clen (l.take (k+1))=clen (l.take k):=by
 rw[zxc l k h,clen_snoc,if_pos h0]
theorem zel (l:List Nat) (k:Nat) (h:k<l.length) (h0:l[k]≠0):clen (l.take (k+1))=k+1:=by
 rw[zxc l k h,clen_snoc,if_neg h0,List.length_take];omega
def pw (k:Nat):Nat:=4294967296^k
theorem zog :pw 0=1:=rfl
theorem zyb (k:Nat):pw (k+1)=4294967296*pw k:=by unfold pw;rw[Nat.pow_succ,Nat.mul_comm]
theorem pw_pos (k:Nat):0<pw k:=Nat.pow_pos (by decide)
theorem pw_add (j k:Nat):pw (j+k)=pw j*pw k:=by unfold pw;rw[Nat.pow_add]
theorem pw_le {j k:Nat} (h:j<=k):pw j<=pw k:=Nat.pow_le_pow_right (by decide) h
theorem zwc (a b:List Nat):val (a++b)=val a+pw a.length*val b:=by
 induction a with
 | nil=>simp[val,zog]
 | cons x a ih=>
   simp only[List.cons_append,val,ih,List.length_cons,zyb];rw[Nat.mul_add,Nat.mul_assoc];omega
theorem zgg {l:List Nat} (h:Lm l):val l<pw l.length:=by
 induction l with
 | nil=>simp[val,zog]
 | cons x l ih=>
   have h1:=ih (fun y hy=>h y (by simp[hy]));have h2:=h x (by simp);simp only[val,List.length_cons,zyb];omega
theorem zma (l:List Nat) (k:Nat) (h:k<l.length):val (l.take (k+1))=val (l.take k)+pw k*l[k]:=by
 rw[zxc l k h,zwc,List.length_take,Nat.min_eq_left (by omega)];simp[val]
theorem zfb (l:List Nat) (k:Nat) (h:l.length<=k):val (l.take k)=val l:=by rw[List.take_of_length_le h]
theorem zkh (n:Nat):val (List.replicate n 0)=0:=by
 induction n with
 | zero=>rfl
 | succ n ih=>simp[List.replicate_succ,val,ih]
theorem zih {l:List Nat}:val l=0↔clen l=0:=by
 induction l with
 | nil=>simp[val,clen]
 | cons x l ih=>
   simp only[val,clen];by_cases h:clen l=0
   ·rw[if_pos h];have:=ih.2 h;by_cases hx:x=0<;>simp[hx,this]
   ·rw[if_neg h];have :val l≠0:=fun e=>h (ih.1 e);omega
def zoa (n:Nat):List Nat:=if h:n=0 then []else n%4294967296::zoa (n/4294967296)
termination_by n
decreasing_by exact Nat.div_lt_self (by omega) (by decide)
theorem zpc :zoa 0= []:=by rw[zoa];simp
theorem zne {n:Nat} (h:n≠0):zoa n=n%4294967296::zoa (n/4294967296):=by rw[zoa];simp[h]
theorem zzl (n:Nat):val (zoa n)=n/\Lm (zoa n)/\clen (zoa n)=(zoa n).length:=by
 induction n using Nat.strongRecOn with
 | _ n ih=>
   by_cases h:n=0
   ·subst h;rw[zpc];exact⟨rfl,fun x h=>by simp at h,rfl⟩
   ·rw[zne h];obtain⟨h1,h2,h3⟩:=ih (n/4294967296) (Nat.div_lt_self (by omega) (by decide));refine⟨by simp only[val,h1];omega,fun x hx=> ?_,?_⟩
    ·rcases List.mem_cons.1 hx with rfl | hx
     ·omega
     ·exact h2 x hx
    ·simp only[clen,List.length_cons];by_cases h0:clen (zoa (n/4294967296))=0
     ·have hv:=zih.2 h0;rw[h1]at hv;rw[if_pos h0,if_neg (by omega)];omega
     ·rw[if_neg h0];omega
theorem zka (n:Nat):val (zoa n)=n:=(zzl n).1
theorem zgc (n:Nat):Lm (zoa n):=(zzl n).2.1
theorem clen_limbs (n:Nat):clen (zoa n)=(zoa n).length:=(zzl n).2.2
theorem zto {l:List Nat} (h:Lm l):zoa (val l)=l.take (clen l):=by
 induction l with
 | nil=>simp[val,clen,zpc]
 | cons x l ih=>
   have h1:=ih (fun y hy=>h y (by simp[hy]));have h2:=h x (by simp);by_cases h0:clen l=0
   ·have hv:=zih.2 h0;simp only[val,clen,if_pos h0,hv];by_cases hx:x=0
    ·simp[hx,zpc]
    ·rw[if_neg hx,zne (by omega),show(x+4294967296*0)/4294967296=0 from by omega,zpc,show(x+4294967296*0)%4294967296=x from by omega];simp
   ·(have hv:val l≠0:=fun e=>h0 (zih.1 e));simp only[val,clen,if_neg h0];rw[zne (by omega),show(x+4294967296*val l)%4294967296=x from by omega,show(x+4294967296*val l)/4294967296=val l from by omega,h1];simp
def zha (n:Nat):Nat:=(zoa n).length
theorem zvd :zha 0=0:=by simp[zha,zpc]
theorem nlen_pos {n:Nat} (h:n≠0):zha n=zha (n/4294967296)+1:=by simp[zha,zne h]
theorem zva {n:Nat}:zha n=0↔n=0:=by
 constructor
 ·intro h;by_cases h0:n=0
  ·exact h0
  ·rw[nlen_pos h0]at h;omega
 ·rintro rfl;exact zvd
theorem zdm {l:List Nat} (h:Lm l):clen l=zha (val l):=by
 unfold zha;rw[zto h,List.length_take];have:=zcm l;omega
theorem zpf (n:Nat):n<pw (zha n):=by
 have:=zgg (zgc n);rw[zka]at this;exact this
theorem znc {n k:Nat}:zha n<=k↔n<pw k:=by
 constructor
 ·intro h;exact Nat.lt_of_lt_of_le (zpf n) (pw_le h)
 ·induction k generalizing n with
  | zero=>intro h;simp[zog]at h;subst h;simp[zvd]
  | succ k ih=>
    intro h;by_cases h0:n=0
    ·subst h0;simp[zvd]
    ·rw[nlen_pos h0];have:= @ih (n/4294967296) (by rw[zyb]at h;omega);omega
theorem zob {m n:Nat} (h:m<=n):zha m<=zha n:=znc.2 (Nat.lt_of_le_of_lt h (zpf n))
theorem zbr {n k:Nat} (h:k<zha n):pw k<=n:=Nat.le_of_not_lt fun h'=>by have:=znc.2 h';omega
theorem zmi {m n:Nat} (h:zoa m=zoa n):m=n:=by rw[<-zka m,<-zka n,h]
theorem zqq {α:Type} (o:List α) (k:Nat) (z:α) (h:k<o.length):(o.set k z).take (k+1)=o.take k++ [z]:=by
 rw[zxc _ k (by simpa using h),List.take_set_of_le (Nat.le_refl _)];simp
theorem zwb (o:List Nat) (k z:Nat) (h:k<o.length):val ((o.set k z).take (k+1))=val (o.take k)+pw k*z:=by
 rw[zqq o k z h,zwc,List.length_take,Nat.min_eq_left (by omega)];simp[val]
theorem zgl {o a b:List Nat} {k c x y:Nat} (hk:k<o.length) (ha:val (a.take (k+1))=val (a.take k)+pw k*x) (hb:val (b.take (k+1))=val (b.take k)+pw k*y)
 (hv:val (o.take k)+pw k*c=val (a.take k)+val (b.take k)):
 val ((o.set k ((c+x+y)%4294967296)).take (k+1))+pw (k+1)*((c+x+y)/4294967296)=val (a.take (k+1))+val (b.take (k+1)):=by
 rw[zwb o k _ hk,ha,hb,zyb];have h:(c+x+y)%4294967296+4294967296*((c+x+y)/4294967296)=c+x+y:=by omega
 generalize (c+x+y)%4294967296=z at *
 generalize (c+x+y)/4294967296=d at *
 grind
theorem ztf {α:Type} (l:List α) (k:Nat) (h:l.length<=k):l.take (k+1)=l.take k:=by
 rw[List.take_of_length_le h,List.take_of_length_le (by omega)]
def zbm (m n:Nat):Int:=if m<n then -1 else if n<m then 1 else 0
theorem zqi {m n:Nat} (h:m<n):zbm m n= -1:=by simp[zbm,h]
theorem zlp {m n:Nat} (h:n<m):zbm m n=1:=by unfold zbm;rw[if_neg (by omega),if_pos h]
theorem cmpN_eq {m n:Nat} (h:m=n):zbm m n=0:=by subst h;unfold zbm;rw[if_neg (by omega),if_neg (by omega)]
theorem zdj {m n:Nat} (h:zha m<zha n):m<n:=Nat.lt_of_not_le fun h'=>by have:=zob h';omega
theorem zci (l:List Nat) (k:Nat) (h:k<l.length):val l=val (l.take k)+pw k*l[k]+pw (k+1)*val (l.drop (k+1)):=by
 have e:val l=val (l.take (k+1)++l.drop (k+1)):=by rw[List.take_append_drop]
 rw[e,zwc,List.length_take,Nat.min_eq_left (by omega),zma l k h]
theorem zif {a b:List Nat} (ha:Lm a) (k:Nat) (h1:k<a.length) (h2:k<b.length) (hd:a.drop (k+1)=b.drop (k+1)) (h:a[k]<b[k]):val a<val b:=by
 rw[zci a k h1,zci b k h2,hd]
 have h3:val (a.take k)<pw k:=by
  have:=zgg (l:=a.take k) (fun x hx=>ha x (List.mem_of_mem_take hx));rwa[List.length_take,Nat.min_eq_left (by omega)]at this
 have h4:pw k*(a[k]+1)<=pw k*b[k]:=Nat.mul_le_mul_left _ h;rw[Nat.mul_add,Nat.mul_one]at h4;omega
theorem zkq {a b:List Nat} (k:Nat) (h1:k<a.length) (h2:k<b.length) (hd:a.drop (k+1)=b.drop (k+1)) (h:a[k]=b[k]):a.drop k=b.drop k:=by
 rw[List.drop_eq_getElem_cons h1,List.drop_eq_getElem_cons h2,hd,h]
theorem sub_step {o a b:List Nat} {k bo x y z bo':Nat} (hk:k<o.length) (ha:val (a.take (k+1))=val (a.take k)+pw k*x) (hb:val (b.take (k+1))=val (b.take k)+pw k*y)
 (hz:z+bo+y=x+4294967296*bo') (hv:val (o.take k)+val (b.take k)=val (a.take k)+pw k*bo):
 val ((o.set k z).take (k+1))+val (b.take (k+1))=val (a.take (k+1))+pw (k+1)*bo':=by
 rw[zwb o k _ hk,ha,hb,zyb];grind
theorem val_set (l:List Nat) (i z:Nat) (h:i<l.length):val (l.set i z)+pw i*l[i]=val l+pw i*z:=by
 induction l generalizing i with
 | nil=>simp at h
 | cons x l ih=>
   cases i with
   | zero=>simp[val,zog];omega
   | succ i=>
     have:=ih i (by simpa using h);simp only[List.set_cons_succ,val,zyb,List.getElem_cons_succ];grind
theorem mul_step {o b:List Nat} {k j N R c x y z c':Nat} (hN:k+j<N) (hl:N<=o.length) (hb:val (b.take (j+1))=val (b.take j)+pw j*y)
 (hv:val (o.take N)+pw (k+j)*c=R+pw k*x*val (b.take j)) (hz:z+4294967296*c'=x*y+o[k+j]+c):
 val ((o.set (k+j) z).take N)+pw (k+(j+1))*c'=R+pw k*x*val (b.take (j+1)):=by
 have h1:=val_set (o.take N) (k+j) z (by simp;omega);rw[List.getElem_take]at h1;rw[List.take_set,hb,<-Nat.add_assoc,zyb];have e:=pw_add k j;generalize val ((o.take N).set (k+j) z)=V' at *
 generalize val (o.take N)=V at *
 generalize o[k+j]=q at *
 generalize pw (k+j)=p at *
 subst e;grind
theorem mul_end {o a b:List Nat} {k n N c x R:Nat} (hN:N<o.length) (ha:val (a.take (k+1))=val (a.take k)+pw k*x) (hn:val b=n) (hR:R=val (a.take k)*n)
 (hv:val (o.take N)+pw N*c=R+pw k*x*val (b.take b.length)):val ((o.set N c).take (N+1))=val (a.take (k+1))*n:=by
 rw[zwb o N c hN,hv,List.take_length,ha,hR,hn];grind
theorem zoo {x y q c:Nat} (hx:x<4294967296) (hy:y<4294967296) (hq:q<4294967296) (hc:c<4294967296):x*y+q+c<18446744073709551616/\x*y<=18446744065119617025:=by
 have h1:x*y<=4294967295*4294967295:=Nat.mul_le_mul (by omega) (by omega);omega
theorem zbj {x y:Nat} (hx:x<4294967296) (hy:y<4294967296):(0:Int)<=(x:Int)*y/\(x:Int)*y<=18446744065119617025:=by
 have h1:x*y<=4294967295*4294967295:=Nat.mul_le_mul (by omega) (by omega);have h2:((x*y:Nat):Int)<=18446744065119617025:=by omega
 rw[Int.natCast_mul]at h2;exact⟨Int.mul_nonneg (by omega) (by omega),h2⟩
theorem div_lt_32 {t:Nat} (h:t<18446744073709551616):t/4294967296<4294967296:=by omega
theorem mul_cast (c x y q:Nat):(c:Int)+((x:Int)*y+q)=((x*y+q+c:Nat):Int):=by
 rw[Int.natCast_add,Int.natCast_add,Int.natCast_mul];omega
end Go.Proofs.YtlpdkbmmbdfoiaaGreat
namespace Go.Proofs.YtlpdkbmmbdfoiaaGreat
def zI (p:Prop):Prop:=p
theorem zI.o {p:Prop} (h:zI p):p:=h
theorem zH {p:Prop} (h:p):zI p:=h
theorem zS {p q:Prop} (k:q) (h:zI q->p:=by (intro k;(try simp only[Act.put,List.setIfInBounds_toArray,List.set_cons_zero,List.set_cons_succ]);exact k.o)):p:=h k
theorem zO {p:Prop} (h:p:=by omega):p:=h
theorem zD {p:Prop} (h:p:=by decide):p:=h
theorem zZ {α:Sort _} {p:α->Prop} (h:∀z,p z:=by (intro z;simp)):∀z,p z:=h
theorem zIP {c:Prop} {h:Decidable c} (hc:c) {α:Sort _} {t e:α}:(ite c t e)=t:=if_pos hc
theorem zIN {c:Prop} {h:Decidable c} (hc:¬c) {α:Sort _} {t e:α}:(ite c t e)=e:=if_neg hc
theorem zAI {a b:Prop} (h:a) (k:b):a/\b:=And.intro h k
theorem zDT {p:Prop} [Decidable p] (h:p):decide p=true:=decide_eq_true h
theorem zDF {p:Prop} [Decidable p] (h:¬p):decide p=false:=decide_eq_false h
theorem zLS (n:Nat):n<=n+1:=Nat.le_succ n
theorem zSS (n:Nat):n<n+1:=Nat.lt_succ_self n
theorem zMZ {n m:Nat} (h:n≠0) (k:m≠0):n*m≠0:=Nat.mul_ne_zero h k
theorem zLO {n m:Nat} (h:n<m):n<=m:=Nat.le_of_lt h
theorem zOG (a b:Nat):a<b\/a>=b:=Nat.lt_or_ge a b
theorem zMM {p q m n:Nat} (h:p<=m) (k:q<=n):p*q<=m*n:=Nat.mul_le_mul h k
abbrev zTL:=@List.take_of_length_le
abbrev zGS:=@List.length_set
abbrev zCO:=@Go.World.cell?_setCell_other
abbrev zAL:=@List.getElem_append_left
abbrev zSF:=@List.getElem_set_self
abbrev zSN:=@List.getElem?_set_ne
abbrev zLA:=@List.length_append
abbrev zAS:=@Nat.add_sub_cancel_left
abbrev zBR:=@Go.RowKit.Below.refl
abbrev zTN:=@List.getElem_set_ne
abbrev zTK:=@List.length_take
abbrev zPZ:=@Nat.pos_of_ne_zero
abbrev zIR:=@Nat.lt_irrefl
abbrev zRR:=@Nat.lt_trans
abbrev zMP:=@List.length_map
abbrev zRP:=@List.length_replicate
abbrev zNZ:=@Nat.not_lt_zero
abbrev zML2:=@Nat.mod_lt
theorem zLR (n:Nat):n<=n:=Nat.le_refl n
theorem zLT {n m k:Nat} (h:n<=m) (h2:m<=k):n<=k:=Nat.le_trans h h2
theorem zZL (n:Nat):0<=n:=Nat.zero_le n
theorem zGE {α:Type _} {l:List α} {i:Nat} (h:i<l.length):l[i]? =some l[i]:=List.getElem?_eq_getElem h
theorem zGD {α:Type _} {l:List α} {i:Nat} {a:α}:l.getD i a=l[i]?.getD a:=List.getD_eq_getElem?_getD
theorem zGM {α:Type _} {l:List α} {n:Nat} (h:n<l.length):l[n]∈l:=List.getElem_mem h
theorem zLL {n m k:Nat} (h:n<=m) (h2:m<k):n<k:=Nat.lt_of_le_of_lt h h2
theorem zLM {n m k:Nat} (h:n<m) (h2:m<=k):n<k:=Nat.lt_of_lt_of_le h h2
theorem zMR {m n:Nat} (k:Nat) (h:m<=n):m*k<=n*k:=Nat.mul_le_mul_right k h
theorem zML {m n:Nat} (k:Nat) (h:m<=n):k*m<=k*n:=Nat.mul_le_mul_left k h
open Go.RowKit
def base :Value->Addr
 | .slice (some a) _ _=>a
 | _=>⟨0,0,none⟩
def ptr (v:Value) (k:Nat):Addr:=(base v).add k
theorem add_add (a:Addr) (j k:Nat):(a.add j).add k=a.add (j+k):=by
 unfold Addr.add;by_cases hj:j=0<;>by_cases hk:k=0<;>simp[hj,hk]
 omega
theorem ptr_add (v:Value) (j k:Nat):(ptr v j).add k=ptr v (j+k):=add_add _ _ _
theorem zya (v:Value) (k:Nat):(ptr v k).block=(base v).block:=by
 unfold ptr Addr.add;split<;>rfl
def slen :Value->Nat
 | .slice _ n _=>n
 | _=>0
def scap :Value->Nat
 | .slice _ _ c=>c
 | _=>0
def zvc (v:Value):Prop:=
 ∃a n cap,v= .slice a n cap/\n<=cap/\cap<=maxLen/\(a=none->cap=0)
theorem zvc.nil :zvc (.slice none 0 0):=⟨none,0,0,rfl,zLR _,by simp[maxLen],λ _=>rfl⟩
theorem zvc.le {v:Value} (h:zvc v):slen v<=scap v/\scap v<=9223372036854775807:=by
 obtain⟨a,n,cap,rfl,h1,h2,_⟩:=h;simp[maxLen]at h2;simp[slen,scap];omega
def tk (v:Value) (n:Nat):Value:=match v with
 | .slice a _ cap=> .slice a n cap
 | v=>v
def tk3 (v:Value) (n:Nat):Value:=match v with
 | .slice a _ _=> .slice a n n
 | v=>v
def cut (size:Nat) (v:Value) (lo hi:Nat):Value:=match v with
 | .slice a _ cap=> .slice (if cap=lo then a else a.map (·.add (lo*size))) (hi-lo) (cap-lo)
 | v=>v
theorem zvc.tk {v:Value} {m:Nat} (h:zvc v) (hm:m<=scap v):zvc (tk v m):=by
 obtain⟨a,n,cap,rfl,h1,h2,h3⟩:=h;exact⟨a,m,cap,rfl,hm,h2,h3⟩
theorem zvc.tk3 {v:Value} {m:Nat} (h:zvc v) (hm:m<=scap v):zvc (tk3 v m):=by
 obtain⟨a,n,cap,rfl,h1,h2,h3⟩:=h;simp only[scap]at hm;exact⟨a,m,m,rfl,zLR _,zO,λ e=>by have:=h3 e;omega⟩
theorem zvc.cut {v:Value} {size lo hi:Nat} (h:zvc v) (hl:lo<=hi) (hh:hi<=scap v):zvc (cut size v lo hi):=by
 obtain⟨a,n,cap,rfl,h1,h2,h3⟩:=h;simp only[scap]at hh;refine⟨_,_,cap-lo,rfl,zO,zO,λ e=> ?_⟩;split at e
 ·omega
 ·have :a=none:=by cases a<;>simp_all
  have:=h3 this;omega
theorem zvc.slen_tk {v:Value} (h:zvc v) (m:Nat):slen (Go.Proofs.YtlpdkbmmbdfoiaaGreat.tk v m)=m:=by obtain⟨a,n,cap,rfl,_⟩:=h;rfl
theorem zvc.slen_tk3 {v:Value} (h:zvc v) (m:Nat):slen (Go.Proofs.YtlpdkbmmbdfoiaaGreat.tk3 v m)=m:=by obtain⟨a,n,cap,rfl,_⟩:=h;rfl
theorem zvc.slen_cut {v:Value} (h:zvc v) (size lo hi:Nat):slen (Go.Proofs.YtlpdkbmmbdfoiaaGreat.cut size v lo hi)=hi-lo:=by obtain⟨a,n,cap,rfl,_⟩:=h;rfl
@[simp] theorem base_tk (v : Value) (m : Nat) : base (tk v m) = base v := by cases v <;> first | rfl | (rename_i a n c; cases a <;> rfl)
@[simp] theorem base_tk3 (v : Value) (m : Nat) : base (tk3 v m) = base v := by cases v <;> first | rfl | (rename_i a n c; cases a <;> rfl)
@[simp, go_sem] theorem ptr_tk (v : Value) (m k : Nat) : ptr (tk v m) k = ptr v k := by simp [ptr]
@[simp, go_sem] theorem ptr_tk3 (v : Value) (m k : Nat) : ptr (tk3 v m) k = ptr v k := by simp [ptr]
theorem zio {v:Value} {size lo hi k:Nat} (h:zvc v) (hh:lo<scap v):ptr (cut size v lo hi) k=ptr v (lo*size+k):=by
 obtain⟨a,n,cap,rfl,h1,h2,h3⟩:=h;simp only[scap]at hh
 cases a with
 | none=>have:=h3 rfl;omega
 | some a=>
   simp only[cut,ptr];rw[zIN zO];simp only[base,Option.map_some,add_add]
section
variable {P:Program} (w:World)
@[go_sem ↓] theorem run_len_sl {t ty : TypeId} {v : Value} (h : zvc v) (ht : P.underlying t = some (.slice (P.elem t))) :
 (Builtin.len_ #[t] ty #[v]).run P w= .ok (.int .i64 (slen v)) w:=by
  obtain⟨a,n,cap,rfl,_⟩:=h;simp[Builtin.len_,run_underlying ht,goInt,slen]
@[go_sem ↓] theorem run_index_sl {t : TypeId} {v : Value} {i : Int} (h : zvc v) (ht : P.underlying t = some (.slice (P.elem t))) :
 (Instr.indexAt t v (.int .i64 i)).run P w=
  if 0<=i/\i<slen v then((sizeOf (P.elem t)).run P w).andThen λ s w=> .ok (.pointer (some (ptr v (i.toNat*s)))) w
  else(boundsPanic .i64 i (slen v) .index).run P w:=by
  obtain⟨a,n,cap,rfl,hn,_,h3⟩:=h
  cases a with
  | none=>
    have:=h3 rfl;obtain rfl:n=0:=zO;rw[zIN (by simp only[slen];omega)];simp[Instr.indexAt,run_underlying ht,asIntOf,slen]
  | some a=>
    by_cases hc:0<=i/\i<((slen (.slice (some a) n cap):Nat):Int)
    ·have hc':0<=i/\i<(n:Int):=hc;rw[zIP hc];simp[Instr.indexAt,run_underlying ht,asIntOf,hc',ptr,base]
    ·have hc':¬ (0<=i/\i<(n:Int)):=hc;rw[zIN hc];simp[Instr.indexAt,run_underlying ht,asIntOf,hc',slen]
@[go_sem ↓] theorem run_slice_tk {t : TypeId} {v : Value} {m : Int} (h : zvc v) (ht : P.underlying t = some (.slice (P.elem t))) (h0 : 0 <= m) (h1 : m <= scap v) :
 (Instr.slice t v none (some (.int .i64 m)) none).run P w=((sizeOf (P.elem t)).run P w).andThen λ _ w=> .ok (tk v m.toNat) w:=by
  obtain⟨a,n,cap,rfl,hn,_,h3⟩:=h;simp only[scap]at h1;simp[Instr.slice,run_underlying ht,Instr.sliceBounds,Instr.sliceBound,asIntOf,h0,h1,tk];cases a<;>simp[Addr.add]
@[go_sem ↓] theorem run_slice_tk3 {t : TypeId} {v : Value} {m : Int} (h : zvc v) (ht : P.underlying t = some (.slice (P.elem t))) (h0 : 0 <= m) (h1 : m <= scap v) :
 (Instr.slice t v none (some (.int .i64 m)) (some (.int .i64 m))).run P w=((sizeOf (P.elem t)).run P w).andThen λ _ w=> .ok (tk3 v m.toNat) w:=by
  obtain⟨a,n,cap,rfl,hn,_,h3⟩:=h;simp only[scap]at h1;have e:(m.toNat:Int)=m:=Int.toNat_of_nonneg h0;simp[Instr.slice,run_underlying ht,Instr.sliceBounds,Instr.sliceBound,asIntOf,h0,h1,e,tk3];cases a<;>simp[Addr.add]
def sliceElse (P:Program) (w:World) (t:TypeId) (v:Value) (lo hi:Value):Result Value:=(Instr.slice t v (some lo) (some hi) none).run P w
@[go_sem ↓] theorem run_slice_cut {t : TypeId} {v : Value} {lo hi : Int} (h : zvc v) (ht : P.underlying t = some (.slice (P.elem t))) :
 (Instr.slice t v (some (.int .i64 lo)) (some (.int .i64 hi)) none).run P w=
  if 0<=lo/\lo<=hi/\hi<=scap v then((sizeOf (P.elem t)).run P w).andThen λ s w=> .ok (cut s v lo.toNat hi.toNat) w else sliceElse P w t v (.int .i64 lo) (.int .i64 hi):=by
  obtain⟨a,n,cap,rfl,hn,_,h3⟩:=h;by_cases hc:0<=lo/\lo<=hi/\hi<=(scap (.slice a n cap):Int)
  ·have hc':=hc;obtain⟨h0,h1,h2⟩:=hc';simp only[scap]at h2;rw[zIP hc];have e:(hi.toNat:Int)=hi:=Int.toNat_of_nonneg zO;have h00:0<=hi:=zO;simp[Instr.slice,run_underlying ht,Instr.sliceBounds,Instr.sliceBound,asIntOf,h0,h1,h00,h2,e,cut]
  ·rw[zIN hc];rfl
@[go_sem ↓] theorem run_sliceAt_any {t : TypeId} {v : Value} {lo hi mx : Option Value} (h : P.underlying t = some (.slice (P.elem t))) :
 (Instr.sliceAt t v lo hi mx).run P w=(Instr.slice t v lo hi mx).run P w:=by
  simp[Instr.sliceAt,run_underlying h]
end
theorem zna {B:Nat} (w:World) (k:Nat):Below B w (w.drewN k):=⟨rfl,rfl,rfl,zLR _,λ _ _=>rfl⟩
structure ztc (w:World) (v:Value) (l:List Nat):Prop where
 sl:zvc v
 len:slen v=l.length
 cell:∀ (j:Nat) (h:j<l.length),w.cell? (ptr v j)=some (.int .u32 (l[j]:Nat))
 lm:Lm l
theorem ztc.nil (w:World):ztc w (.slice none 0 0) []:=⟨zvc.nil,rfl,λ j h=>by simp at h,λ x h=>by simp at h⟩
theorem ztc.bw {w w':World} {v:Value} {l:List Nat} (h:ztc w v l) (hb:Below w.heap.size w w'):ztc w' v l:=
 ⟨h.sl,h.len,λ j hj=>by
  have hc:=h.cell j hj;have hlt:=World.block_lt_of_cell? w _ hc;rw[hb.cell hlt];exact hc,h.lm⟩
theorem ztc.tk {w:World} {v:Value} {l:List Nat} (h:ztc w v l) (n:Nat) (hn:n<=l.length):ztc w (tk v n) (l.take n):=by
 have e:(l.take n).length=n:=by simp;omega
 have:=h.sl.le;have:=h.len;refine⟨h.sl.tk zO,by rw[e];exact h.sl.slen_tk n,λ j hj=> ?_,λ x hx=>h.lm x (List.mem_of_mem_take hx)⟩;have:=h.cell j zO;simp[this]
theorem ztc.tk3 {w:World} {v:Value} {l:List Nat} (h:ztc w v l) (n:Nat) (hn:n<=l.length):ztc w (tk3 v n) (l.take n):=by
 have e:(l.take n).length=n:=by simp;omega
 have:=h.sl.le;have:=h.len;refine⟨h.sl.tk3 zO,by rw[e];exact h.sl.slen_tk3 n,λ j hj=> ?_,λ x hx=>h.lm x (List.mem_of_mem_take hx)⟩;have:=h.cell j zO;simp[this]
theorem ztc.cut {w:World} {v:Value} {l:List Nat} (h:ztc w v l) (lo hi:Nat) (hl:lo<=hi) (hh:hi<=l.length):ztc w (cut 1 v lo hi) ((l.drop lo).take (hi-lo)):=by
 have e:((l.drop lo).take (hi-lo)).length=hi-lo:=by simp;omega
 have:=h.sl.le;have:=h.len;refine⟨h.sl.cut hl zO,by rw[e];exact h.sl.slen_cut 1 lo hi,λ j hj=> ?_,λ x hx=>h.lm x (List.mem_of_mem_drop (List.mem_of_mem_take hx))⟩;rw[zio h.sl zO,Nat.mul_one,h.cell (lo+j) zO];simp
theorem ztc.lt {w:World} {v:Value} {l:List Nat} (h:ztc w v l) (j:Nat) (hj:j<l.length):l[j]<4294967296:=h.lm _ (zGM hj)
def zye (w:World) (e:TypeId) (B:Nat) (v:Value) (es:List Value):Prop:=w.ownsRow B e 1 v es.length es
section
variable {w:World} {e:TypeId} {B:Nat} {v:Value} {es:List Value}
theorem zye.nil (w:World) (e:TypeId) (B:Nat):zye w e B (.slice none 0 0) []:=World.ownsRow_nil w B e 1
theorem zye.sl (h:zye w e B v es):zvc v:=by
 rcases h.2 with⟨rfl,h0⟩ | ⟨g,cap,cur,rfl,hb,hg,hn,hm,hs,ht⟩
 ·exact zvc.nil
 ·exact⟨_,_,_,rfl,hn,hm,λ e=>by cases e⟩
theorem zye.len (h:zye w e B v es):slen v=es.length:=by
 rcases h.2 with⟨rfl,h0⟩ | ⟨g,cap,cur,rfl,hb,hg,hn,hm,hs,ht⟩
 ·rw[h0];rfl
 ·rfl
theorem zye.cell (h:zye w e B v es) (j:Nat) (hj:j<es.length):w.cell? (ptr v j)=some es[j]:=by
 rcases h.2 with⟨rfl,h0⟩ | ⟨g,cap,cur,rfl,hb,hg,hn,hm,hs,ht⟩
 ·omega
 ·have:=World.ownsRow.cellAt h j zO;simp only[ptr,base,Addr.add_lit,Nat.zero_add];rw[this,zGE hj]
theorem zye.frozen (h:zye w e B v es) (j:Nat) (hj:j<es.length):w.frozen? (ptr v j)=false:=by
 rcases h.2 with⟨rfl,h0⟩ | ⟨g,cap,cur,rfl,hb,hg,hn,hm,hs,ht⟩
 ·omega
 ·have:=World.ownsRow.frozenAt h j;simpa only[ptr,base,Addr.add_lit,Nat.zero_add]using this
theorem zye.block (h:zye w e B v es) (hj:0<es.length):B<=(base v).block/\(base v).block<w.heap.size:=by
 rcases h.2 with⟨rfl,h0⟩ | ⟨g,cap,cur,rfl,hb,hg,hn,hm,hs,ht⟩
 ·omega
 ·exact⟨hb,(Array.getElem?_eq_some_iff.1 hg).1⟩
theorem zja {w w':World} {row:Option Nat} {B:Nat} (hg:w.grownBy w' row) (hB:B<=w.heap.size) (hr:∀k,row=some k->B<=k):Below B w w':=
 (zBR B w).grown hg hB hr
theorem zpg {w w':World} (h:Below w.heap.size w w'):w.grownBy w' none:=
 ⟨h.os,h.tape,h.output,h.size,λ k hk _=>h.block k hk⟩
theorem zye.bw {w':World} (h:zye w e B v es) (hb:Below w.heap.size w w'):zye w' e B v es:=
 World.ownsRow.kept h (zpg hb) (by cases hv:v.ownBlock<;>simp)
theorem zye.alloc (h:zye w e B v es) (o:Obj):zye (w.alloc o) e B v es:=World.ownsRow.alloc h o
theorem zye.set (h:zye w e B v es) (j:Nat) (hj:j<es.length) (u:Value):zye (w.setCell (ptr v j) u) e B v (es.set j u)/\Below B w (w.setCell (ptr v j) u):=by
 have hbl:=h.block zO;rcases h.2 with⟨rfl,h0⟩ | ⟨g,cap,cur,rfl,hb,hg,hn,hm,hs,ht⟩
 ·omega
 ·have hs:=World.ownsRow.stored h j u;simp only[ptr,base,Addr.add_lit,Nat.zero_add];refine⟨?_,zja hs.2 (by simp only[base]at hbl;omega) (λ k hk=>by simp at hk;omega)⟩;have:=hs.1;unfold zye;rw[zGS];exact this
theorem zye.other (h:zye w e B v es) (p:Addr) (u:Value) (hp:p.block≠(base v).block):zye (w.setCell p u) e B v es:=by
 refine⟨h.1,?_⟩;rcases h.2 with⟨rfl,h0⟩ | ⟨g,cap,cur,rfl,hb,hg,hn,hm,hs,ht⟩
 ·exact .inl ⟨rfl,h0⟩
 ·refine .inr ⟨g,cap,cur,rfl,hb,?_,hn,hm,hs,ht⟩;simp only[base]at hp;rw[Below.heap_setCell _ _ _ _ (λ e=>hp e.symm)];exact hg
theorem zye.mono {B':Nat} (h:zye w e B v es) (hB:B'<=B):zye w e B' v es:=by
 refine⟨h.1,?_⟩;rcases h.2 with⟨rfl,h0⟩ | ⟨g,cap,cur,rfl,hb,rest⟩
 ·exact .inl ⟨rfl,h0⟩
 ·exact .inr ⟨g,cap,cur,rfl,zO,rest⟩
end
theorem zck {P:Program} (w:World) {ops:Array Oper} {rest:List Oper} {o:Oper} {a:Act} {Q:Exit->Act->World->Prop}
 (hg:o.guard=none) (l c:Operand) (t:TypeId) (hop:o.op=Op.makeSlice t l c)
 (B:Nat) (e:TypeId) (i:TypeInfo) (z:Value) (h1:P.underlying t=some (.slice e)) (h2:P.info? e=some i) (h3:i.zero=some z) (h4:i.size=1) (hz1:z.cells=#[z])
 (n:Nat) (hl:a.eval l= .int .i64 n) (hc:a.eval c= .int .i64 n) (b2:i.bytes*n<=281474976710656) (b3:n<=maxLen) (b4:B<=w.heap.size)
 (hK:∀v w',zye w' e B v (List.replicate n z)->Below w.heap.size w w'->w.heap.size<=(base v).block->wpList P ops Q rest (a.put o.dst v) w'):
 wpList P ops Q (o::rest) a w:=by
 refine wpList_make_full w hg l c t hop B e i z 1 h1 h2 h3 h4 .i64 .i64 n n n hl hc rfl rfl b2 b3 b4 ?_;intro w' hown hgr;refine hK _ w' ?_ (zja hgr (zLR _) (λ k hk=>by cases hk)) (by simp[base]);have :(madeCells z.cells (n*1)).toList=List.replicate n z:=by rw[hz1,Nat.mul_one,toList_madeCells_one]
 rw[this]at hown;unfold zye;rw[zRP];exact hown
theorem zkm {P:Program} (w:World) (B:Nat) (t ty e:TypeId) (i:TypeInfo) (z:Value) (bytes:Nat) (ht:P.underlying t=some (.slice e)) (hi:P.info? e=some i) (hz:i.zero=some z)
 (hsize:i.size=1) (hby:i.bytes=bytes) (hzs:z.cells.size=1)
 (v:Value) (es:List Value) (hown:zye w e B v es) (x:Value) (hx:zvc x) (news:List Value) (hlen:slen x=news.length)
 (hnews:∀j (hj:j<news.length),w.cell? (ptr x j)=some news[j]) (h1:∀u∈news,u.oneCell'=true)
 (h63:es.length+news.length<=maxLen) (hbytes:(es.length+news.length)*bytes<=140737488355328) (hbase:B<=w.heap.size):
 ∃v' w',(Builtin.append_ #[t,t] ty #[v,x]).run P w= .ok v' w'/\zye w' e B v' (es++news)/\w.grownBy w' v.ownBlock:=by
 obtain⟨a,n,cap,rfl,hnc,hcm,hnil⟩:=hx;simp only[slen]at hlen;subst hlen
 cases a with
 | none=>
   have:=hnil rfl;obtain rfl:cap=0:=this;have hn:news= []:=List.eq_nil_of_length_eq_zero zO;subst hn;refine⟨v,w,run_append_owned_none w B t ty e i 1 ht hi v es.length es hown,?_,⟨rfl,rfl,rfl,zLR _,λ _ _ _=>rfl⟩⟩;rw[List.append_nil];exact hown
 | some a=>
   obtain⟨v',w',h2,h3,h4,_⟩:=run_append_own (P:=P) w B t ty e i z 1 bytes ht hi hz hsize hby hzs zO v es.length es hown a news.length cap news zO
    (λ j u hu=>by
     have hj:j<news.length:=(List.getElem?_eq_some_iff.1 hu).1;have:=hnews j hj;simp only[ptr,base]at this;rw[this];rw[zGE hj]at hu;exact hu) h1 h63 hbytes hbase
   refine⟨v',w',h2,?_,h4⟩;unfold zye;rw[zLA];exact h3
theorem zye.ownBlock {w:World} {e:TypeId} {B:Nat} {v:Value} {es:List Value} (h:zye w e B v es):∀k,v.ownBlock=some k->B<=k:=λ k hk=>(World.ownsRow.lt h k hk).1
theorem zrf {P:Program} (w:World) {ops:Array Oper} {rest:List Oper} {o:Oper} {a:Act} {Q:Exit->Act->World->Prop} (hgd:o.guard=none) (s x:Operand) (t:TypeId)
 (ho:o.op= .call { callee:= .builtin .append,args:=#[s,x],argTypes:=#[t,t] })
 (B:Nat) (e:TypeId) (i:TypeInfo) (z:Value) (bytes:Nat) (ht:P.underlying t=some (.slice e)) (hi:P.info? e=some i) (hz:i.zero=some z)
 (hsize:i.size=1) (hby:i.bytes=bytes) (hzs:z.cells.size=1)
 (v:Value) (es:List Value) (hs:a.eval s=v) (hown:zye w e B v es) (xv:Value) (hxe:a.eval x=xv) (hx:zvc xv) (news:List Value) (hlen:slen xv=news.length)
 (hnews:∀j (hj:j<news.length),w.cell? (ptr xv j)=some news[j]) (h1:∀u∈news,u.oneCell'=true)
 (h63:es.length+news.length<=maxLen) (hbytes:(es.length+news.length)*bytes<=140737488355328) (hbase:B<=w.heap.size)
 (h:∀v' w',zye w' e B v' (es++news)->w.grownBy w' v.ownBlock->Below B w w'->wpList P ops Q rest (a.put o.dst v') w'):wpList P ops Q (o::rest) a w:=by
 refine wpList_plain hgd λ K hK=> ?_
 obtain⟨v',w',hr,h2,h3⟩:=zkm (P:=P) w B t o.type e i z bytes ht hi hz hsize hby hzs v es hown xv hx news hlen hnews h1 h63 hbytes hbase;unfold Oper.wp execOp;simp only[ho,resolve,invoke,builtin,Sem.run_bind,Sem.run_pure,Result.andThen_ok,List.map_toArray,List.map_cons,List.map_nil,hs,hxe,hr];exact hK _ _ (h v' w' h2 h3 (zja h3 hbase hown.ownBlock))
theorem zqm {P:Program} (w0:World) {ops:Array Oper} {rest:List Oper} {o:Oper} {a:Act} {Q:Exit->Act->World->Prop} (hgd:o.guard=none) (s x:Operand) (t:TypeId)
 (ho:o.op= .call { callee:= .builtin .append,args:=#[s,x],argTypes:=#[t,t] })
 (B:Nat) (e e':TypeId) (i:TypeInfo) (z:Value) (bytes:Nat) (ht:P.underlying t=some (.slice e)) (hi:P.info? e=some i) (hz:i.zero=some z)
 (hsize:i.size=1) (hby:i.bytes=bytes) (hzs:z.cells.size=1)
 (v:Value) (es:List Value) (hs:a.eval s=v) (hown:zye w0 e B v es) (u:Value) (hxe:a.eval x= .slice (some ⟨w0.heap.size,0,none⟩) 1 1) (h1:u.oneCell'=true)
 (h63:es.length+1<=maxLen) (hbytes:(es.length+1)*bytes<=140737488355328) (hbase:B<=w0.heap.size)
 (h:∀v' w',zye w' e B v' (es++ [u])->Below B w0 w'->wpList P ops Q rest (a.put o.dst v') w'):wpList P ops Q (o::rest) a (w0.alloc (.cells #[u] e')):=by
 refine zrf (w0.alloc (.cells #[u] e')) hgd s x t ho B e i z bytes ht hi hz hsize hby hzs v es hs (hown.alloc _) _ hxe ⟨_,1,1,rfl,zLR _,by simp[maxLen],λ e=>by cases e⟩ [u] rfl
  (λ j hj=> ?_) (λ u' hu'=>by simp at hu';subst hu';exact h1) h63 hbytes (by simp;omega) (λ v' w' h2 _ h3=>h v' w' h2 (((zBR B w0).alloc hbase _).trans h3))
 have hj0:j=0:=by simp at hj;omega
 subst hj0;simp[ptr,base,Addr.add]
def u32V (x:Nat):Value:= .int .u32 (x:Nat)
structure zzc (w:World) (e:TypeId) (B:Nat) (v:Value) (o:List Nat):Prop where
 own:zye w e B v (o.map u32V)
 lm:Lm o
section
variable {w:World} {e:TypeId} {B:Nat} {v:Value} {o:List Nat}
theorem zzc.nil (w:World) (e:TypeId) (B:Nat):zzc w e B (.slice none 0 0) []:=⟨zye.nil w e B,λ x h=>by simp at h⟩
theorem zzc.nat (h:zzc w e B v o):ztc w v o:=
 ⟨h.own.sl,by rw[h.own.len,zMP],λ j hj=>by rw[h.own.cell j (by simpa using hj)];simp[u32V],h.lm⟩
theorem zzc.bw {w':World} (h:zzc w e B v o) (hb:Below w.heap.size w w'):zzc w' e B v o:=⟨h.own.bw hb,h.lm⟩
theorem zzc.frozen (h:zzc w e B v o) (j:Nat) (hj:j<o.length):w.frozen? (ptr v j)=false:=h.own.frozen j (by simpa using hj)
theorem zzc.block (h:zzc w e B v o) (hj:0<o.length):B<=(base v).block/\(base v).block<w.heap.size:=h.own.block (by simpa using hj)
theorem Lm.set {o:List Nat} (h:Lm o) (j x:Nat) (hx:x<4294967296):Lm (o.set j x):=λ y hy=>by
 rcases List.mem_or_eq_of_mem_set hy with h' | h'
 ·exact h y h'
 ·omega
theorem Lm.append {o p:List Nat} (h:Lm o) (h':Lm p):Lm (o++p):=λ y hy=>(List.mem_append.1 hy).elim (h y) (h' y)
theorem Lm.one {x:Nat} (h:x<4294967296):Lm [x]:=λ y hy=>by simp at hy;omega
theorem Lm.take {o:List Nat} (h:Lm o) (k:Nat):Lm (o.take k):=λ y hy=>h y (List.mem_of_mem_take hy)
theorem Lm.drop {o:List Nat} (h:Lm o) (k:Nat):Lm (o.drop k):=λ y hy=>h y (List.mem_of_mem_drop hy)
theorem Lm.replicate (n:Nat):Lm (List.replicate n 0):=λ y hy=>by have:=List.eq_of_mem_replicate hy;omega
theorem zzc.set (h:zzc w e B v o) (j:Nat) (hj:j<o.length) (x:Nat) (hx:x<4294967296):
 zzc (w.setCell (ptr v j) (.int .u32 (x:Nat))) e B v (o.set j x)/\Below B w (w.setCell (ptr v j) (.int .u32 (x:Nat))):=by
 have:=h.own.set j (by simpa using hj) (u32V x);refine⟨⟨?_,h.lm.set j x hx⟩,this.2⟩;rw[List.map_set];exact this.1
end
theorem zhm {P:Program} (t e:TypeId) (i:TypeInfo) (ht:P.underlying t=some (.slice e)) (hi:P.info? e=some i) (hz:i.zero=some (.int .u32 0))
 (hsize:i.size=1) (hby:i.bytes=4) (w:World) {ops:Array Oper} {rest:List Oper} {o:Oper} {a:Act} {Q:Exit->Act->World->Prop} (hgd:o.guard=none) (s x:Operand)
 (ho:o.op= .call { callee:= .builtin .append,args:=#[s,x],argTypes:=#[t,t] }) (B:Nat)
 (v:Value) (es:List Nat) (hs:a.eval s=v) (hown:zzc w e B v es) (xv:Value) (hxe:a.eval x=xv) (l:List Nat) (hx:ztc w xv l) (hb:es.length+l.length<=35184372088832) (hbase:B<=w.heap.size)
 (h:∀v' w',zzc w' e B v' (es++l)->w.grownBy w' v.ownBlock->Below B w w'->wpList P ops Q rest (a.put o.dst v') w'):wpList P ops Q (o::rest) a w:=by
 refine zrf w hgd s x t ho B e i (.int .u32 0) 4 ht hi hz hsize hby rfl v (es.map u32V) hs hown.own xv hxe hx.sl (l.map u32V) (by rw[hx.len,zMP])
  (λ j hj=>by rw[hx.cell j (by simpa using hj)];simp[u32V]) (λ u hu=>by obtain⟨x,_,rfl⟩:=List.mem_map.1 hu;rfl)
  (by simp[maxLen];omega) (by simp;omega) hbase ?_
 intro v' w' h2 h3 h4;exact h v' w' ⟨by rw[List.map_append];exact h2,hown.lm.append hx.lm⟩ h3 h4
theorem zxh {P:Program} (t e:TypeId) (i:TypeInfo) (ht:P.underlying t=some (.slice e)) (hi:P.info? e=some i) (hz:i.zero=some (.int .u32 0))
 (hsize:i.size=1) (hby:i.bytes=4) (w0:World) {ops:Array Oper} {rest:List Oper} {o:Oper} {a:Act} {Q:Exit->Act->World->Prop} (hgd:o.guard=none) (s x:Operand)
 (ho:o.op= .call { callee:= .builtin .append,args:=#[s,x],argTypes:=#[t,t] }) (B:Nat) (e':TypeId)
 (v:Value) (es:List Nat) (hs:a.eval s=v) (hown:zzc w0 e B v es) (u:Int) (y:Nat) (hu:u=y) (hy:y<4294967296) (hxe:a.eval x= .slice (some ⟨w0.heap.size,0,none⟩) 1 1) (hb:es.length+1<=35184372088832) (hbase:B<=w0.heap.size)
 (h:∀v' w',zzc w' e B v' (es++ [y])->Below B w0 w'->wpList P ops Q rest (a.put o.dst v') w'):wpList P ops Q (o::rest) a (w0.alloc (.cells #[.int .u32 u] e')):=by
 subst hu;refine zqm w0 hgd s x t ho B e e' i (.int .u32 0) 4 ht hi hz hsize hby rfl v (es.map u32V) hs hown.own (u32V y) hxe rfl (by simp[maxLen];omega) (by simp;omega) hbase ?_;intro v' w' h2 h4;exact h v' w' ⟨by rw[List.map_append];exact h2,hown.lm.append (Lm.one hy)⟩ h4
theorem zme {P:Program} (t e:TypeId) (i:TypeInfo) (h1:P.underlying t=some (.slice e)) (h2:P.info? e=some i) (h3:i.zero=some (.int .u32 0)) (h4:i.size=1) (h5:i.bytes=4)
 (w:World) {ops:Array Oper} {rest:List Oper} {o:Oper} {a:Act} {Q:Exit->Act->World->Prop} (hg:o.guard=none) (l c:Operand) (hop:o.op=Op.makeSlice t l c)
 (B:Nat) (u:Int) (n:Nat) (hu:u=n) (hl:a.eval l= .int .i64 u) (hc:a.eval c= .int .i64 u) (b2:n<=35184372088832) (b4:B<=w.heap.size)
 (hK:∀v w',zzc w' e B v (List.replicate n 0)->Below w.heap.size w w'->w.heap.size<=(base v).block->wpList P ops Q rest (a.put o.dst v) w'):
 wpList P ops Q (o::rest) a w:=by
 subst hu;refine zck w hg l c t hop B e i (.int .u32 0) h1 h2 h3 h4 rfl n hl hc (by rw[h5];omega) (by simp[maxLen];omega) b4 ?_;intro v w' a1 a2 a3;exact hK v w' ⟨by rw[List.map_replicate];exact a1,Lm.replicate n⟩ a2 a3
set_option maxHeartbeats 400000
def zcc (w:World) (v:Value) (n:Nat):Prop:=∃l,ztc w v l/\val l=n/\l.length<=4294967296
def zub (w:World) (v:Value) (n:Nat):Prop:=ztc w v (zoa n)/\zha n<=4294967296
theorem zub.nat {w:World} {v:Value} {n:Nat} (h:zub w v n):zcc w v n:=⟨_,h.1,zka n,h.2⟩
theorem zub.bw {w w':World} {v:Value} {n:Nat} (h:zub w v n) (hb:Below w.heap.size w w'):zub w' v n:=⟨h.1.bw hb,h.2⟩
theorem zcc.bw {w w':World} {v:Value} {n:Nat} (h:zcc w v n) (hb:Below w.heap.size w w'):zcc w' v n:=by
 obtain⟨l,h,e⟩:=h;exact⟨l,h.bw hb,e⟩
theorem zub.nil (w:World):zub w (.slice none 0 0) 0:=by unfold zub;rw[zpc,zvd];exact⟨ztc.nil w,zO⟩
theorem zcc.drawn {w:World} {v:Value} {n:Nat} (h:zcc w v n) (k:Nat):zcc (w.drewN k) v n:=h.bw (zna w k)
theorem zub.drawn {w:World} {v:Value} {n:Nat} (h:zub w v n) (k:Nat):zub (w.drewN k) v n:=h.bw (zna w k)
theorem ztc.natN {w:World} {v:Value} {l:List Nat} (h:ztc w v l) (hl:l.length<=4294967296):zcc w v (val l):=⟨l,h,rfl,hl⟩
theorem zic {l:List Nat} (h:Lm l):zha (val l)<=l.length:=by rw[<-zdm h];exact zcm l
theorem ztc.can {w:World} {v:Value} {l:List Nat} (h:ztc w v l) (hl:l.length<=4294967296):zub w (Go.Proofs.YtlpdkbmmbdfoiaaGreat.tk v (zha (val l))) (val l):=by
 refine⟨?_,zLT (zic h.lm) hl⟩;rw[zto h.lm,<-zdm h.lm];exact h.tk _ (zcm l)
theorem ztc.can3 {w:World} {v:Value} {l:List Nat} (h:ztc w v l) (hl:l.length<=4294967296):zub w (Go.Proofs.YtlpdkbmmbdfoiaaGreat.tk3 v (zha (val l))) (val l):=by
 refine⟨?_,zLT (zic h.lm) hl⟩;rw[zto h.lm,<-zdm h.lm];exact h.tk3 _ (zcm l)
theorem length_v (v:Value) (l:List Nat) (w:World) (h:ztc w v l):
 Calls Tryz.prog 198 #[v] w λ e w'=>e= .returned (.int .i64 (clen l))/\w=w':=by
 have hs:=h.sl;have hlen:=h.len;have hle:=hs.le;go_enter Tryz.func198,Tryz.ntmps198;go_wp2;go_loop [3] (λ i=>∃k:Nat,k<=l.length/\i= .int .i64 k/\clen (l.take k)=clen l) (λ i=>(intOf i).toNat);case atStart=>exact⟨l.length,zLR _,rfl,by rw[List.take_length]⟩
 case round=>
  obtain⟨k,hk,rfl,hce⟩:=hrel;have HC:=zH hce;clear hce;by_cases h0:0<k
  ·obtain⟨j,rfl⟩:∃j,k=j+1:=⟨k-1,zO⟩;have hj:j<l.length:=zO;have hc:=h.cell j hj;go_wp2
   ·go_round;(case rel=>exact⟨j,zO,rfl,by rw[<-HC.o,zsg l j hj (by simp_all)]⟩);case measure=>simp[intOf]
   ·go_ret;exact⟨by rw[<-HC.o,zel l j hj (by simp_all)];simp,rfl⟩
  ·have hk0:k=0:=zO;subst hk0;go_wp2;go_ret;exact⟨by rw[<-HC.o];simp[clen],rfl⟩
theorem zib (v:Value) (n:Nat) (w:World) (h:zcc w v n):
 Calls Tryz.prog 198 #[v] w λ e w'=>e= .returned (.int .i64 (zha n))/\w=w':=by
 obtain⟨l,h,rfl,_⟩:=h;rw[<-zdm h.lm];exact length_v v l w h
theorem large_any (v:Value) (n:Nat) (w:World) (h:zcc w v n):
 Calls Tryz.prog 200 #[v] w λ e w'=>e= .returned (.bool (decide (512<zha n)))/\w=w':=by
 go_enter Tryz.func200,Tryz.ntmps200;go_wp2_with (go_at_call 198;refine(zib v n _ h).mono ?_;rintro e w' ⟨rfl,rfl⟩);go_ret;exact⟨by congr 2;simp;omega,rfl⟩
def SizedP (w:World) (r:Value) (er:Int) (n:Nat):Prop:=(zha n<=512->er=0/\zub w r n)/\(512<zha n->er=2/\zub w r 0)
def zmq (w0:World) (n:Nat) (e:Ending) (w:World):Prop:=
 ∃r er,e= .returned (.tuple #[r, .int .i64 er])/\SizedP w r er n/\Below w0.heap.size w0 w
theorem zik (v:Value) (l:List Nat) (w:World) (h:ztc w v l) (hll:l.length<=4294967296):
 Calls Tryz.prog 201 #[v] w (zmq w (val l)):=by
 have hs:=h.sl;have hlen:=h.len;have hle:=hs.le;have hcl:=zcm l;rw[zdm h.lm]at hcl;have hcs:zha (val l)<=scap v:=zO;go_enter Tryz.func201,Tryz.ntmps201;go_wp2_with (go_at_call 198;refine(zib v (val l) _ (h.natN hll)).mono ?_;rintro e w' ⟨rfl,rfl⟩)
 ·go_ret2;have hbig:¬zha (val l)<=512:=zO;exact⟨_,2,rfl,⟨λ h=>zO,λ _=>⟨rfl,zub.nil w⟩⟩,zBR _ _⟩
 ·go_ret2;have hbig:zha (val l)<=512:=zO;exact⟨_,0,rfl,⟨λ _=>⟨rfl,h.can3 hll⟩,λ h=>zO⟩,zBR _ _⟩
theorem Tryz.info102 :(Tryz.prog.info? 142).map (λ i=>(i.zero,i.size,i.bytes))=some (some (.int .u32 0),1,4):=by kernel_rfl
def RNat (w0:World) (n:Nat) (e:Ending) (w:World):Prop:=∃r,e= .returned r/\zub w r n/\Below w0.heap.size w0 w
theorem zje (v:Value) (n:Nat) (w:World) (h:zcc w v n):
 Calls Tryz.prog 194 #[v] w (RNat w n):=by
 have hN:=h;obtain⟨l,hl,HE,hll⟩:=h;have hs:=hl.sl;have hlen:=hl.len;have hle:=hs.le;have hcan:=hl.can hll;rw[HE]at hcan;have hcl:=zic hl.lm;rw[HE]at hcl;clear HE;have hcs:zha n<=scap v:=zO;obtain⟨i0,hi,hz0,hz1,hz2⟩:=info_parts Tryz.info102;have hroom:([]:List Nat).length+(zoa n).length<=35184372088832:=by have:=hcan.2;unfold zha at this;simp;omega
 have hA:=zhm (P:=Tryz.prog) 36 142 i0 Tryz.underlying36 hi hz0 hz1 hz2;go_enter Tryz.func194,Tryz.ntmps194
 go_wp2_with (first
  |(go_at_call 198;refine(zib v n _ hN).mono ?_;rintro e w' ⟨rfl,rfl⟩)
  |(at_builtin;refine hA w rfl _ _ rfl w.heap.size _ [] rfl (zzc.nil _ _ _) _ rfl (zoa n) hcan.1 hroom (zLR _) ?_;intro v' w1 hown _ hbel))
 go_ret;exact⟨v',rfl,⟨by simpa using hown.nat,hcan.2⟩,hbel⟩
theorem zxe (v:Value) (n:Nat) (w:World) (h:zcc w v n) (hn:zha n<=512):
 Calls Tryz.prog 200 #[v] w λ e w'=>e= .returned (.bool false)/\w=w':=
 (large_any v n w h).mono λ e w' ⟨h1,h2⟩=>⟨by rw[h1,zDF zO],h2⟩
theorem zcc.scap {w:World} {v:Value} {n:Nat} (h:zcc w v n):zvc v/\zha n<=scap v/\zub w (Go.Proofs.YtlpdkbmmbdfoiaaGreat.tk v (zha n)) n:=by
 obtain⟨l,hl,rfl,hll⟩:=h;have:=hl.len;have:=hl.sl.le;have:=zic hl.lm;exact⟨hl.sl,zO,hl.can hll⟩
set_option maxHeartbeats 800000 in
theorem add_any (va vb:Value) (m n:Nat) (w:World) (ha:zcc w va m) (hb:zcc w vb n) (hm:zha m<=512) (hn:zha n<=512):
 Calls Tryz.prog 158 #[va,vb] w (zmq w (m+n)):=by
 obtain⟨sa,ca,ka⟩:=ha.scap;obtain⟨sb,cb,kb⟩:=hb.scap;obtain⟨i0,hi,hz0,hz1,hz2⟩:=info_parts Tryz.info102;have hM:=zme (P:=Tryz.prog) 36 142 i0 Tryz.underlying36 hi hz0 hz1 hz2;go_enter Tryz.func158,Tryz.ntmps158;go_wp2_with (go_at_call 200;first | ((with_reducible refine(zxe va m _ ha hm).mono ?_);rintro e w' ⟨rfl,rfl⟩) | ((with_reducible refine(zxe vb n _ hb hn).mono ?_);rintro e w' ⟨rfl,rfl⟩));go_quiet ((go_at_call 198;first | with_reducible exact Calls.quiet_of_same ((zib va m _ (ha.drawn _)).mono λ e w' ⟨h1,h2⟩=>⟨h1,h2.symm⟩) | with_reducible exact Calls.quiet_of_same ((zib vb n _ (hb.drawn _)).mono λ e w' ⟨h1,h2⟩=>⟨h1,h2.symm⟩)));have l1:slen (tk va (zha m))=zha m:=ka.1.len;have l2:slen (tk vb (zha n))=zha n:=kb.1.len;have s1:=ka.1.sl;have s2:=kb.1.sl;clear ha hb sa sb ca cb;generalize tk va (zha m)=xa at *
 generalize tk vb (zha n)=xb at *
 have kb':=kb.drawn nq;have ka':=ka.drawn nq;have hbel:=zna (B:=w.heap.size) w nq;generalize w.drewN nq=W at *
 by_cases hlt:zha m<zha n
 ·skip
  go_wp2_with (refine hM _ rfl _ _ rfl W.heap.size _ (zha n+1) rfl rfl rfl zO (zLR _) ?_;intro v w1 hown hb1 hvb);have hbw:Below w.heap.size w w1:=hbel.trans (hb1.mono hbel.size);clear hM
  go_loopw [7,36] (λ u7 u36 wr=>∃ (k c:Nat) (o:List Nat),k<=zha n/\u36= .int .i64 k/\u7= .int .u64 c/\c<=1/\zzc wr 142 W.heap.size v o/\o.length=zha n+1/\
   val (o.take k)+pw k*c=val ((zoa n).take k)+val ((zoa m).take k)/\Below W.heap.size W wr) (λ _ u36 _=>zha n- (intOf u36).toNat)
  case atStart=>exact⟨0,0,_,zZL _,rfl,rfl,zO,hown,by simp,by simp[val],hb1⟩
  case round=>
   obtain⟨k,c,o,hk,rfl,rfl,hc,hownr,hol,hval,hbr⟩:=hrel;have hcx:=((kb'.bw hbr).1).cell;have hcy:=((ka'.bw hbr).1).cell;have sv:=hownr.nat.sl;(have lv:slen v=zha n+1:=by rw[hownr.nat.len,hol]);have HV:=zH hval;clear hval;by_cases hkp:k<zha n
   ·have hx:=hcx k hkp;have hx1:(zoa n)[k]'hkp<4294967296:=zgc n _ (zGM _);have hfz:=hownr.frozen k zO;have hco:=hownr.nat.cell k zO;clear hcx;by_cases hkq:k<zha m
    ·have hy:=hcy k hkq;have hy1:(zoa m)[k]'hkq<4294967296:=zgc m _ (zGM _);clear hcy;have HX:=zH (zma (zoa n) k hkp);have HY:=zH (zma (zoa m) k hkq);generalize (zoa n)[k]'hkp=x at *
     generalize (zoa m)[k]'hkq=y at *
     go_wp2;have hset:=hownr.set k zO ((c+x+y)%4294967296) zO;rw[show(((c+x+y)%4294967296:Nat):Int)=((c:Int)+x+y)%4294967296 from zO]at hset;go_roundw;(case rel=>exact⟨k+1,(c+x+y)/4294967296,_,zO,by go_num,by go_num,zO,hset.1,by simp[hol],zgl zO HX.o HY.o HV.o,hbr.trans hset.2⟩);case measure=>simp[intOf];omega
    ·have HX:=zH (zma (zoa n) k hkp);have HY:=zH (ztf (zoa m) k (by unfold zha at hkq;omega));clear hcy;generalize (zoa n)[k]'hkp=x at *
     go_wp2;have hset:=hownr.set k zO ((c+x+0)%4294967296) zO;rw[show(((c+x+0)%4294967296:Nat):Int)=((c:Int)+x)%4294967296 from zO]at hset;go_roundw;(case rel=>exact⟨k+1,(c+x+0)/4294967296,_,zO,by go_num,by go_num,zO,hset.1,by simp[hol],zgl zO HX.o (by rw[HY.o];rfl) HV.o,hbr.trans hset.2⟩);case measure=>simp[intOf];omega
   ·have hkk:k=zha n:=zO;subst hkk;clear hcx hcy;have hfz:=hownr.frozen (zha n) zO;have hco:=hownr.nat.cell (zha n) zO;have hset:=hownr.set (zha n) zO c zO
    have hv2:val (o.set (zha n) c)=m+n:=by
     have e:=zwb o (zha n) c zO;rw[zTL (by simp;omega)]at e;rw[e,HV.o,zTL (show zha n<=zha n from zLR _),zTL (show zha m<=zha n by omega),zka,zka,Nat.add_comm]
    have HS:=zH (zik v _ _ hset.1.nat (by simp;omega));have HV2:=zH hv2;have HB:=zH (hbr.trans hset.2);clear hset hv2 hbr HV;go_wp2_with (go_at_call 201;refine HS.o.mono ?_;rintro e w' ⟨r,er,rfl,hr,hbl⟩);go_ret2;rw[HV2.o]at hr;exact⟨r,er,rfl,hr,hbel.trans ((HB.o.trans (hbl.mono HB.o.size)).mono hbel.size)⟩
 ·skip
  go_wp2_with (refine hM _ rfl _ _ rfl W.heap.size _ (zha m+1) rfl rfl rfl zO (zLR _) ?_;intro v w1 hown hb1 hvb);have hbw:Below w.heap.size w w1:=hbel.trans (hb1.mono hbel.size);clear hM
  go_loopw [7,36] (λ u7 u36 wr=>∃ (k c:Nat) (o:List Nat),k<=zha m/\u36= .int .i64 k/\u7= .int .u64 c/\c<=1/\zzc wr 142 W.heap.size v o/\o.length=zha m+1/\
   val (o.take k)+pw k*c=val ((zoa m).take k)+val ((zoa n).take k)/\Below W.heap.size W wr) (λ _ u36 _=>zha m- (intOf u36).toNat)
  case atStart=>exact⟨0,0,_,zZL _,rfl,rfl,zO,hown,by simp,by simp[val],hb1⟩
  case round=>
   obtain⟨k,c,o,hk,rfl,rfl,hc,hownr,hol,hval,hbr⟩:=hrel;have hcx:=((ka'.bw hbr).1).cell;have hcy:=((kb'.bw hbr).1).cell;have sv:=hownr.nat.sl;(have lv:slen v=zha m+1:=by rw[hownr.nat.len,hol]);have HV:=zH hval;clear hval;by_cases hkp:k<zha m
   ·have hx:=hcx k hkp;have hx1:(zoa m)[k]'hkp<4294967296:=zgc m _ (zGM _);have hfz:=hownr.frozen k zO;have hco:=hownr.nat.cell k zO;clear hcx;by_cases hkq:k<zha n
    ·have hy:=hcy k hkq;have hy1:(zoa n)[k]'hkq<4294967296:=zgc n _ (zGM _);clear hcy;have HX:=zH (zma (zoa m) k hkp);have HY:=zH (zma (zoa n) k hkq);generalize (zoa m)[k]'hkp=x at *
     generalize (zoa n)[k]'hkq=y at *
     go_wp2;have hset:=hownr.set k zO ((c+x+y)%4294967296) zO;rw[show(((c+x+y)%4294967296:Nat):Int)=((c:Int)+x+y)%4294967296 from zO]at hset;go_roundw;(case rel=>exact⟨k+1,(c+x+y)/4294967296,_,zO,by go_num,by go_num,zO,hset.1,by simp[hol],zgl zO HX.o HY.o HV.o,hbr.trans hset.2⟩);case measure=>simp[intOf];omega
    ·have HX:=zH (zma (zoa m) k hkp);have HY:=zH (ztf (zoa n) k (by unfold zha at hkq;omega));clear hcy;generalize (zoa m)[k]'hkp=x at *
     go_wp2;have hset:=hownr.set k zO ((c+x+0)%4294967296) zO;rw[show(((c+x+0)%4294967296:Nat):Int)=((c:Int)+x)%4294967296 from zO]at hset;go_roundw;(case rel=>exact⟨k+1,(c+x+0)/4294967296,_,zO,by go_num,by go_num,zO,hset.1,by simp[hol],zgl zO HX.o (by rw[HY.o];rfl) HV.o,hbr.trans hset.2⟩);case measure=>simp[intOf];omega
   ·have hkk:k=zha m:=zO;subst hkk;clear hcx hcy;have hfz:=hownr.frozen (zha m) zO;have hco:=hownr.nat.cell (zha m) zO;have hset:=hownr.set (zha m) zO c zO
    have hv2:val (o.set (zha m) c)=m+n:=by
     have e:=zwb o (zha m) c zO;rw[zTL (by simp;omega)]at e;rw[e,HV.o,zTL (show zha m<=zha m from zLR _),zTL (show zha n<=zha m by omega),zka,zka,Nat.add_comm]
    have HS:=zH (zik v _ _ hset.1.nat (by simp;omega));have HV2:=zH hv2;have HB:=zH (hbr.trans hset.2);clear hset hv2 hbr HV;go_wp2_with (go_at_call 201;refine HS.o.mono ?_;rintro e w' ⟨r,er,rfl,hr,hbl⟩);go_ret2;rw[HV2.o]at hr;exact⟨r,er,rfl,hr,hbel.trans ((HB.o.trans (hbl.mono HB.o.size)).mono hbel.size)⟩
end Go.Proofs.YtlpdkbmmbdfoiaaGreat
