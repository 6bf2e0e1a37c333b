/- Lemmas. -/
set_option linter.unusedVariables false
set_option linter.unusedSimpArgs false
namespace Go.Proofs.YtlpdkbmmbdfoiaaGreat
def val :List Nat->Nat
 | []=>0
 | x::l=>x+4294967296*val l
def Lm (l:List Nat):Prop:=∀x∈l,x<4294967296
def clen :List Nat->Nat
 | []=>0
 | x::l=>if clen l=0 then(if x=0 then 0 else 1)else clen l+1
theorem zgj (l:List Nat):clen l<=l.length:=by
 induction l with
 | nil=>simp[clen]
 | cons x l ih=>simp only[clen,List.length_cons];split<;>(try split)<;>omega
theorem clen_snoc (l:List Nat) (x:Nat):clen (l++ [x])=if x=0 then clen l else l.length+1:=by
 induction l with
 | nil=>simp[clen]
 | cons y l ih=>
   simp only[List.cons_append,clen,ih,List.length_cons]
   by_cases hx:x=0
   ·simp[hx]
   ·simp[hx]
theorem zxc {α:Type} (l:List α) (k:Nat) (h:k<l.length):l.take (k+1)=l.take k++ [l[k]]:=by
 rw[List.take_succ_eq_append_getElem h]
theorem zbf (l:List Nat) (k:Nat) (h:k<l.length) (h0:l[k]=0):clen (l.take (k+1))=clen (l.take k):=by
 rw[zxc l k h,clen_snoc,if_pos h0]
theorem zki (l:List Nat) (k:Nat) (h:k<l.length) (h0:l[k]≠0):clen (l.take (k+1))=k+1:=by
 rw[zxc l k h,clen_snoc,if_neg h0,List.length_take];omega
def pw (k:Nat):Nat:=4294967296^k
theorem zye :pw 0=1:=rfl
theorem zmb (k:Nat):pw (k+1)=4294967296*pw k:=by unfold pw;rw[Nat.pow_succ,Nat.mul_comm]
theorem pw_pos (k:Nat):0<pw k:=Nat.pow_pos (by decide)
theorem pw_add (j k:Nat):pw (j+k)=pw j*pw k:=by unfold pw;rw[Nat.pow_add]
theorem zzu {j k:Nat} (h:j<=k):pw j<=pw k:=Nat.pow_le_pow_right (by decide) h
theorem zac (a b:List Nat):val (a++b)=val a+pw a.length*val b:=by
 induction a with
 | nil=>simp[val,zye]
 | cons x a ih=>
   simp only[List.cons_append,val,ih,List.length_cons,zmb]
   rw[Nat.mul_add,Nat.mul_assoc];omega
theorem zoe {l:List Nat} (h:Lm l):val l<pw l.length:=by
 induction l with
 | nil=>simp[val,zye]
 | cons x l ih=>
   have h1:=ih (fun y hy=>h y (by simp[hy]))
   have h2:=h x (by simp)
   simp only[val,List.length_cons,zmb]
   omega
theorem zia (l:List Nat) (k:Nat) (h:k<l.length):val (l.take (k+1))=val (l.take k)+pw k*l[k]:=by
 rw[zxc l k h,zac,List.length_take,Nat.min_eq_left (by omega)];simp[val]
theorem zza (l:List Nat) (k:Nat) (h:l.length<=k):val (l.take k)=val l:=by rw[List.take_of_length_le h]
theorem znf (n:Nat):val (List.replicate n 0)=0:=by
 induction n with
 | zero=>rfl
 | succ n ih=>simp[List.replicate_succ,val,ih]
theorem zlf {l:List Nat}:val l=0↔clen l=0:=by
 induction l with
 | nil=>simp[val,clen]
 | cons x l ih=>
   simp only[val,clen]
   by_cases h:clen l=0
   ·rw[if_pos h];have:=ih.2 h;by_cases hx:x=0<;>simp[hx,this]
   ·rw[if_neg h];have :val l≠0:=fun e=>h (ih.1 e);omega
def zla (n:Nat):List Nat:=if h:n=0 then []else n%4294967296::zla (n/4294967296)
termination_by n
decreasing_by exact Nat.div_lt_self (by omega) (by decide)
theorem zbc :zla 0= []:=by rw[zla];simp
theorem zxd {n:Nat} (h:n≠0):zla n=n%4294967296::zla (n/4294967296):=by rw[zla];simp[h]
theorem zcj (n:Nat):val (zla n)=n/\Lm (zla n)/\clen (zla n)=(zla n).length:=by
 induction n using Nat.strongRecOn with
 | _ n ih=>
   by_cases h:n=0
   ·subst h;rw[zbc];exact⟨rfl,fun x h=>by simp at h,rfl⟩
   ·rw[zxd h]
    obtain⟨h1,h2,h3⟩:=ih (n/4294967296) (Nat.div_lt_self (by omega) (by decide))
    refine⟨by simp only[val,h1];omega,fun x hx=> ?_,?_⟩
    ·rcases List.mem_cons.1 hx with rfl | hx
     ·omega
     ·exact h2 x hx
    ·simp only[clen,List.length_cons]
     by_cases h0:clen (zla (n/4294967296))=0
     ·have hv:=zlf.2 h0
      rw[h1]at hv
      rw[if_pos h0,if_neg (by omega)];omega
     ·rw[if_neg h0];omega
theorem zha (n:Nat):val (zla n)=n:=(zcj n).1
theorem zrb (n:Nat):Lm (zla n):=(zcj n).2.1
theorem clen_limbs (n:Nat):clen (zla n)=(zla n).length:=(zcj n).2.2
theorem zhl {l:List Nat} (h:Lm l):zla (val l)=l.take (clen l):=by
 induction l with
 | nil=>simp[val,clen,zbc]
 | cons x l ih=>
   have h1:=ih (fun y hy=>h y (by simp[hy]))
   have h2:=h x (by simp)
   by_cases h0:clen l=0
   ·have hv:=zlf.2 h0
    simp only[val,clen,if_pos h0,hv]
    by_cases hx:x=0
    ·simp[hx,zbc]
    ·rw[if_neg hx,zxd (by omega),show(x+4294967296*0)/4294967296=0 from by omega,zbc,show(x+4294967296*0)%4294967296=x from by omega];simp
   ·have hv:val l≠0:=fun e=>h0 (zlf.1 e)
    simp only[val,clen,if_neg h0]
    rw[zxd (by omega),show(x+4294967296*val l)%4294967296=x from by omega,show(x+4294967296*val l)/4294967296=val l from by omega,h1]
    simp
def zda (n:Nat):Nat:=(zla n).length
theorem zzc :zda 0=0:=by simp[zda,zbc]
theorem nlen_pos {n:Nat} (h:n≠0):zda n=zda (n/4294967296)+1:=by simp[zda,zxd h]
theorem zta {n:Nat}:zda n=0↔n=0:=by
 constructor
 ·intro h;by_cases h0:n=0
  ·exact h0
  ·rw[nlen_pos h0]at h;omega
 ·rintro rfl;exact zzc
theorem zhj {l:List Nat} (h:Lm l):clen l=zda (val l):=by
 unfold zda;rw[zhl h,List.length_take];have:=zgj l;omega
theorem zhe (n:Nat):n<pw (zda n):=by
 have:=zoe (zrb n);rw[zha]at this;exact this
theorem zzb {n k:Nat}:zda n<=k↔n<pw k:=by
 constructor
 ·intro h;exact Nat.lt_of_lt_of_le (zhe n) (zzu h)
 ·induction k generalizing n with
  | zero=>intro h;simp[zye]at h;subst h;simp[zzc]
  | succ k ih=>
    intro h
    by_cases h0:n=0
    ·subst h0;simp[zzc]
    ·rw[nlen_pos h0]
     have:= @ih (n/4294967296) (by rw[zmb]at h;omega)
     omega
theorem zfb {m n:Nat} (h:m<=n):zda m<=zda n:=zzb.2 (Nat.lt_of_le_of_lt h (zhe n))
theorem zkn {n k:Nat} (h:k<zda n):pw k<=n:=Nat.le_of_not_lt fun h'=>by have:=zzb.2 h';omega
theorem zhg {m n:Nat} (h:zla m=zla n):m=n:=by rw[<-zha m,<-zha n,h]
theorem zzm {α:Type} (o:List α) (k:Nat) (z:α) (h:k<o.length):(o.set k z).take (k+1)=o.take k++ [z]:=by
 rw[zxc _ k (by simpa using h),List.take_set_of_le (Nat.le_refl _)]
 simp
theorem zkb (o:List Nat) (k z:Nat) (h:k<o.length):val ((o.set k z).take (k+1))=val (o.take k)+pw k*z:=by
 rw[zzm o k z h,zac,List.length_take,Nat.min_eq_left (by omega)];simp[val]
theorem zli {o a b:List Nat} {k c x y:Nat} (hk:k<o.length) (ha:val (a.take (k+1))=val (a.take k)+pw k*x) (hb:val (b.take (k+1))=val (b.take k)+pw k*y)
 (hv:val (o.take k)+pw k*c=val (a.take k)+val (b.take k)):
 val ((o.set k ((c+x+y)%4294967296)).take (k+1))+pw (k+1)*((c+x+y)/4294967296)=val (a.take (k+1))+val (b.take (k+1)):=by
 rw[zkb o k _ hk,ha,hb,zmb]
 have h:(c+x+y)%4294967296+4294967296*((c+x+y)/4294967296)=c+x+y:=by omega
 generalize (c+x+y)%4294967296=z at *
 generalize (c+x+y)/4294967296=d at *
 grind
theorem zje {α:Type} (l:List α) (k:Nat) (h:l.length<=k):l.take (k+1)=l.take k:=by
 rw[List.take_of_length_le h,List.take_of_length_le (by omega)]
def zfj (m n:Nat):Int:=if m<n then -1 else if n<m then 1 else 0
theorem zkg {m n:Nat} (h:m<n):zfj m n= -1:=by simp[zfj,h]
theorem zul {m n:Nat} (h:n<m):zfj m n=1:=by unfold zfj;rw[if_neg (by omega),if_pos h]
theorem cmpN_eq {m n:Nat} (h:m=n):zfj m n=0:=by subst h;unfold zfj;rw[if_neg (by omega),if_neg (by omega)]
theorem zug {m n:Nat} (h:zda m<zda n):m<n:=Nat.lt_of_not_le fun h'=>by have:=zfb h';omega
theorem zag (l:List Nat) (k:Nat) (h:k<l.length):val l=val (l.take k)+pw k*l[k]+pw (k+1)*val (l.drop (k+1)):=by
 have e:val l=val (l.take (k+1)++l.drop (k+1)):=by rw[List.take_append_drop]
 rw[e,zac,List.length_take,Nat.min_eq_left (by omega),zia l k h]
theorem zde {a b:List Nat} (ha:Lm a) (k:Nat) (h1:k<a.length) (h2:k<b.length) (hd:a.drop (k+1)=b.drop (k+1)) (h:a[k]<b[k]):val a<val b:=by
 rw[zag a k h1,zag b k h2,hd]
 have h3:val (a.take k)<pw k:=by
  have:=zoe (l:=a.take k) (fun x hx=>ha x (List.mem_of_mem_take hx))
  rwa[List.length_take,Nat.min_eq_left (by omega)]at this
 have h4:pw k*(a[k]+1)<=pw k*b[k]:=Nat.mul_le_mul_left _ h
 rw[Nat.mul_add,Nat.mul_one]at h4
 omega
theorem zvm {a b:List Nat} (k:Nat) (h1:k<a.length) (h2:k<b.length) (hd:a.drop (k+1)=b.drop (k+1)) (h:a[k]=b[k]):a.drop k=b.drop k:=by
 rw[List.drop_eq_getElem_cons h1,List.drop_eq_getElem_cons h2,hd,h]
theorem sub_step {o a b:List Nat} {k bo x y z bo':Nat} (hk:k<o.length) (ha:val (a.take (k+1))=val (a.take k)+pw k*x) (hb:val (b.take (k+1))=val (b.take k)+pw k*y)
 (hz:z+bo+y=x+4294967296*bo') (hv:val (o.take k)+val (b.take k)=val (a.take k)+pw k*bo):
 val ((o.set k z).take (k+1))+val (b.take (k+1))=val (a.take (k+1))+pw (k+1)*bo':=by
 rw[zkb o k _ hk,ha,hb,zmb]
 grind
theorem val_set (l:List Nat) (i z:Nat) (h:i<l.length):val (l.set i z)+pw i*l[i]=val l+pw i*z:=by
 induction l generalizing i with
 | nil=>simp at h
 | cons x l ih=>
   cases i with
   | zero=>simp[val,zye];omega
   | succ i=>
     have:=ih i (by simpa using h)
     simp only[List.set_cons_succ,val,zmb,List.getElem_cons_succ]
     grind
theorem mul_step {o b:List Nat} {k j N R c x y z c':Nat} (hN:k+j<N) (hl:N<=o.length) (hb:val (b.take (j+1))=val (b.take j)+pw j*y)
 (hv:val (o.take N)+pw (k+j)*c=R+pw k*x*val (b.take j)) (hz:z+4294967296*c'=x*y+o[k+j]+c):
 val ((o.set (k+j) z).take N)+pw (k+(j+1))*c'=R+pw k*x*val (b.take (j+1)):=by
 have h1:=val_set (o.take N) (k+j) z (by simp;omega)
 rw[List.getElem_take]at h1
 rw[List.take_set,hb,<-Nat.add_assoc,zmb]
 have e:=pw_add k j
 generalize val ((o.take N).set (k+j) z)=V' at *
 generalize val (o.take N)=V at *
 generalize o[k+j]=q at *
 generalize pw (k+j)=p at *
 subst e
 grind
theorem mul_end {o a b:List Nat} {k n N c x R:Nat} (hN:N<o.length) (ha:val (a.take (k+1))=val (a.take k)+pw k*x) (hn:val b=n) (hR:R=val (a.take k)*n)
 (hv:val (o.take N)+pw N*c=R+pw k*x*val (b.take b.length)):val ((o.set N c).take (N+1))=val (a.take (k+1))*n:=by
 rw[zkb o N c hN,hv,List.take_length,ha,hR,hn]
 grind
theorem zcl {x y q c:Nat} (hx:x<4294967296) (hy:y<4294967296) (hq:q<4294967296) (hc:c<4294967296):x*y+q+c<18446744073709551616/\x*y<=18446744065119617025:=by
 have h1:x*y<=4294967295*4294967295:=Nat.mul_le_mul (by omega) (by omega)
 omega
theorem zsg {x y:Nat} (hx:x<4294967296) (hy:y<4294967296):(0:Int)<=(x:Int)*y/\(x:Int)*y<=18446744065119617025:=by
 have h1:x*y<=4294967295*4294967295:=Nat.mul_le_mul (by omega) (by omega)
 have h2:((x*y:Nat):Int)<=18446744065119617025:=by omega
 rw[Int.natCast_mul]at h2
 exact⟨Int.mul_nonneg (by omega) (by omega),h2⟩
theorem div_lt_32 {t:Nat} (h:t<18446744073709551616):t/4294967296<4294967296:=by omega
theorem mul_cast (c x y q:Nat):(c:Int)+((x:Int)*y+q)=((x*y+q+c:Nat):Int):=by
 rw[Int.natCast_add,Int.natCast_add,Int.natCast_mul];omega
theorem znh (l:List Nat) (k:Nat) (h:k<l.length):val (l.drop k)=l[k]+4294967296*val (l.drop (k+1)):=by
 rw[List.drop_eq_getElem_cons h];rfl
theorem drop_set_of_lt {α:Type} (l:List α) (k:Nat) (z:α) (h:k<l.length):(l.set k z).drop k=z::l.drop (k+1):=by
 rw[List.drop_eq_getElem_cons (by simpa using h),List.drop_set_of_lt (by omega)]
 simp
theorem zjm {q l:List Nat} {k d r x:Nat} (hk:k<q.length) (hl:val (l.drop k)=x+4294967296*val (l.drop (k+1))) (hd:0<d)
 (hv:val (l.drop (k+1))=d*val (q.drop (k+1))+r) (hr:r<d):
 val (l.drop k)=d*val ((q.set k ((r*4294967296+x)/d)).drop k)+(r*4294967296+x)%d:=by
 rw[drop_set_of_lt q k _ hk,hl,hv]
 simp only[val]
 have h:=Nat.div_add_mod (r*4294967296+x) d
 generalize (r*4294967296+x)/d=a at *
 generalize (r*4294967296+x)%d=b at *
 grind
theorem zgk {d r x:Nat} (hd:d<4294967296) (hr:r<d) (hx:x<4294967296):(r*4294967296+x)/d<4294967296/\(r*4294967296+x)%d<d/\r*4294967296+x<18446744073709551616:=by
 refine⟨?_,Nat.mod_lt _ (by omega),by omega⟩
 rw[Nat.div_lt_iff_lt_mul (by omega)]
 have :r*4294967296+4294967296<=d*4294967296:=by omega
 omega
theorem up_step {o l:List Nat} {k c x P t:Nat} (hk:k<o.length) (hl:val (l.take (k+1))=val (l.take k)+pw k*x) (hv:val (o.take k)+pw k*c=P*val (l.take k)) (ht:t=P*x+c):
 val ((o.set k (t%4294967296)).take (k+1))+pw (k+1)*(t/4294967296)=P*val (l.take (k+1)):=by
 rw[zkb o k _ hk,hl,zmb]
 have h:t%4294967296+4294967296*(t/4294967296)=t:=by omega
 generalize t%4294967296=z at *
 generalize t/4294967296=d at *
 grind
theorem zan {p q l:List Nat} {k c bo f x u z c' bo' lo:Nat} (hk:k<q.length) (hp:val (p.take (k+1))=val (p.take k)+pw k*u) (hl:val (l.take (k+1))=val (l.take k)+pw k*x)
 (ht:4294967296*c'+lo=c+f*x) (hz:z+lo+bo=u+4294967296*bo')
 (hv:val (q.take k)+f*val (l.take k)=val (p.take k)+pw k*(c+bo)):
 val ((q.set k z).take (k+1))+f*val (l.take (k+1))=val (p.take (k+1))+pw (k+1)*(c'+bo'):=by
 rw[zkb q k _ hk,hp,hl,zmb]
 generalize pw k=P at *
 generalize val (q.take k)=Q at *
 generalize val (p.take k)=R at *
 generalize val (l.take k)=L at *
 have h1:P*(4294967296*c'+lo)=P*(c+f*x):=by rw[ht]
 have h2:P*(z+lo+bo)=P*(u+4294967296*bo'):=by rw[hz]
 grind
theorem subtract_end {p q l:List Nat} {n c bo f z b:Nat} (hq:q.length=n+1) (hp:p.length=n+1) (hl:l.length=n) (hpn:p[n]'(by omega)+4294967296*b=z+c+bo)
 (hv:val (q.take n)+f*val (l.take n)=val (p.take n)+pw n*(c+bo)):val (q.set n z)+f*val l=val p+b*pw (n+1):=by
 have e1:=zkb q n z (by omega)
 rw[List.take_of_length_le (by simp;omega)]at e1
 have e2:=zia p n (by omega)
 rw[List.take_of_length_le (by omega)]at e2
 rw[List.take_of_length_le (by omega:l.length<=n)]at hv
 rw[e1,e2,zmb]
 generalize p[n]'(by omega)=u at *
 generalize pw n=P at *
 have h2:P*(u+4294967296*b)=P*(z+c+bo):=by rw[hpn]
 grind
theorem zhk {α:Type} (A p C:List α) (k:Nat) (z:α) (h:k<p.length):(A++p++C).set (A.length+k) z=A++p.set k z++C:=by
 rw[List.append_assoc,List.set_append_right _ _ (by omega),Nat.add_sub_cancel_left,List.set_append_left _ _ h,List.append_assoc]
theorem zxe {α:Type} (A p C:List α) (k:Nat) (h:k<p.length):(A++p++C)[A.length+k]? =some p[k]:=by
 rw[List.append_assoc,List.getElem?_append_right (by omega),Nat.add_sub_cancel_left,List.getElem?_append_left h,List.getElem?_eq_getElem h]
theorem zsl {U V U' V' P ul vl g:Nat} (hV:V=V'*P+vl) (hU:U=U'*P+ul) (hul:ul<P) (hV0:0<V) (h:U'<g*V'):U/V<g:=by
 rcases Nat.lt_or_ge (U/V) g with h1 | h1
 ·exact h1
 ·exfalso
  have h2:g*V<=U:=Nat.le_trans (Nat.mul_le_mul_right V h1) (Nat.div_mul_le_self U V)
  have h3:(U'+1)*P<=g*V'*P:=Nat.mul_le_mul_right P h
  have h4:g*V=g*V'*P+g*vl:=by rw[hV,Nat.mul_add,Nat.mul_assoc]
  rw[Nat.add_mul,Nat.one_mul]at h3
  omega
theorem digit_lower {U V U' V' P ul vl g:Nat} (hV:V=V'*P+vl) (hvl:vl<P) (hU:U=U'*P+ul) (hV0:0<V) (h:g*V'<=U') (hg:g<=V'+1):g<=U/V+1:=by
 cases g with
 | zero=>exact Nat.zero_le _
 | succ g=>
   have h1:g*V<=U:=by
    have a1:g*V=g*V'*P+g*vl:=by rw[hV,Nat.mul_add,Nat.mul_assoc]
    have a2:g*vl<=g*P:=Nat.mul_le_mul_left g (by omega)
    have a3:g*P<=V'*P:=Nat.mul_le_mul_right P (by omega)
    have a4:(g*V'+V')*P<=U'*P:=Nat.mul_le_mul_right P (by rw[Nat.succ_mul]at h;exact h)
    rw[Nat.add_mul]at a4
    omega
   have:=(Nat.le_div_iff_mul_le hV0).2 h1
   omega
theorem zrm {top next r head u2 g:Nat} (h:g*top+r=head):(r*4294967296+u2<g*next)↔(head*4294967296+u2<g*(top*4294967296+next)):=by
 subst h
 have :g*(top*4294967296+next)=g*top*4294967296+g*next:=by rw[Nat.mul_add,Nat.mul_assoc]
 rw[this,Nat.add_mul]
 omega
theorem zdk (l:List Nat) (n:Nat) (h:n+2=l.length):val l=(l[n+1]'(by omega)*4294967296+l[n]'(by omega))*pw n+val (l.take n):=by
 have h1:=zia l (n+1) (by omega)
 have h2:=zia l n (by omega)
 rw[List.take_of_length_le (by omega)]at h1
 rw[h1,h2,zmb]
 generalize l[n+1]'(by omega)=b
 generalize l[n]'(by omega)=c
 generalize pw n=P
 generalize val (l.take n)=V
 grind
theorem zkh (l:List Nat) (n:Nat) (h:n+3=l.length):val l=((l[n+2]'(by omega)*4294967296+l[n+1]'(by omega))*4294967296+l[n]'(by omega))*pw n+val (l.take n):=by
 have h1:=zia l (n+2) (by omega)
 have h2:=zia l (n+1) (by omega)
 have h3:=zia l n (by omega)
 rw[List.take_of_length_le (by omega)]at h1
 have e1:pw (n+1)=4294967296*pw n:=zmb n
 have e2:pw (n+2)=4294967296*(4294967296*pw n):=by rw[zmb (n+1),zmb n]
 rw[h1,h2,h3,e1,e2]
 generalize l[n+2]'(by omega)=a
 generalize l[n+1]'(by omega)=b
 generalize l[n]'(by omega)=c
 generalize pw n=P
 generalize val (l.take n)=V
 grind
theorem zdd {l:List Nat} (h:Lm l) (n:Nat) (hn:n<=l.length):val (l.take n)<pw n:=by
 have:=zoe (l:=l.take n) (fun x hx=>h x (List.mem_of_mem_take hx))
 rwa[List.length_take,Nat.min_eq_left hn]at this
structure zzl (p l:List Nat) (n:Nat):Prop where
 hp:n+3=p.length
 hl:n+2=l.length
 lp:Lm p
 ll:Lm l
 top:2147483648<=l[n+1]'(by omega)
 lt:val p<val l*4294967296
section
variable {p l:List Nat} {n:Nat} (R:zzl p l n)
include R
theorem zzl.vpos :0<val l:=by
 have h:=zdk l n R.hl
 have:=R.top
 have h1:1*pw n<=(l[n+1]'(by have:=R.hl;omega)*4294967296+l[n]'(by have:=R.hl;omega))*pw n:=Nat.mul_le_mul_right _ (by omega)
 have:=pw_pos n
 omega
theorem zzl.first_le :p[n+2]'(by have:=R.hp;omega)<=l[n+1]'(by have:=R.hl;omega):=by
 have h1:=zkh p n R.hp
 have h2:=zdk l n R.hl
 have h3:=zdd R.ll n (by have:=R.hl;omega)
 have h4:=R.lt
 have e1:=R.ll _ (List.getElem_mem (h:=show n<l.length by have:=R.hl;omega))
 generalize p[n+2]'(by have:=R.hp;omega)=a at *
 generalize p[n+1]'(by have:=R.hp;omega)=b at *
 generalize p[n]'(by have:=R.hp;omega)=c at *
 generalize l[n+1]'(by have:=R.hl;omega)=t at *
 generalize l[n]'(by have:=R.hl;omega)=s at *
 have hP:=pw_pos n
 generalize pw n=P at *
 rcases Nat.lt_or_ge t a with h | h
 ·exfalso
  -- val l < (t + 1) * B * P, val p >= a B B P
  have i1:(t*4294967296+s+1)*P<=((t+1)*4294967296)*P:=Nat.mul_le_mul_right _ (by omega)
  have i2:((t+1)*4294967296*4294967296)*P<=((a*4294967296+b)*4294967296+c)*P:=Nat.mul_le_mul_right _ (by omega)
  rw[Nat.add_mul (t*4294967296+s),Nat.one_mul]at i1
  have i3:((t+1)*4294967296*4294967296)*P=((t+1)*4294967296)*P*4294967296:=by rw[Nat.mul_right_comm]
  omega
 ·exact h
theorem zzl.start :let head:=p[n+2]'(by have:=R.hp;omega)*4294967296+p[n+1]'(by have:=R.hp;omega)
 val p/val l<=head/l[n+1]'(by have:=R.hl;omega)/\head/l[n+1]'(by have:=R.hl;omega)<=4294967297:=by
 have h1:=zkh p n R.hp
 have h2:=zdk l n R.hl
 have h3:=zdd R.lp n (by have:=R.hp;omega)
 have hv:=R.vpos
 have hf:=R.first_le
 have ht:=R.top
 have e1:=R.lp _ (List.getElem_mem (h:=show n<p.length by have:=R.hp;omega))
 have e2:=R.lp _ (List.getElem_mem (h:=show n+1<p.length by have:=R.hp;omega))
 intro head
 have hh:head=p[n+2]'(by have:=R.hp;omega)*4294967296+p[n+1]'(by have:=R.hp;omega):=rfl
 rw[<-hh]at h1
 generalize p[n+2]'(by have:=R.hp;omega)=a at *
 generalize p[n+1]'(by have:=R.hp;omega)=b at *
 generalize p[n]'(by have:=R.hp;omega)=c at *
 generalize l[n+1]'(by have:=R.hl;omega)=t at *
 generalize l[n]'(by have:=R.hl;omega)=s at *
 have hd:=Nat.div_add_mod head t
 have hm:=Nat.mod_lt head (show 0<t by omega)
 constructor
 ·have :val p/val l<head/t+1:=by
   refine zsl h2 h1 h3 hv ?_
   generalize head/t=g at *
   have e:(g+1)*(t*4294967296+s)=t*g*4294967296+t*4294967296+(g+1)*s:=by grind
   rw[e]
   omega
  omega
 ·have :head/t<4294967298:=by
   rw[Nat.div_lt_iff_lt_mul (by omega)]
   omega
  omega
theorem zzl.lt_B :val p/val l<4294967296:=by
 rw[Nat.div_lt_iff_lt_mul R.vpos,Nat.mul_comm];exact R.lt
theorem zzl.lower {g r:Nat} (hg:val p/val l<=g) (hr:g*l[n+1]'(by have:=R.hl;omega)+r=p[n+2]'(by have:=R.hp;omega)*4294967296+p[n+1]'(by have:=R.hp;omega))
 (h:4294967296<=g\/r*4294967296+p[n]'(by have:=R.hp;omega)<g*l[n]'(by have:=R.hl;omega)):val p/val l<=g-1/\1<=g/\(g-1)*l[n+1]'(by have:=R.hl;omega)+(r+l[n+1]'(by have:=R.hl;omega))=p[n+2]'(by have:=R.hp;omega)*4294967296+p[n+1]'(by have:=R.hp;omega):=by
 have hB:=R.lt_B
 have h1:=zkh p n R.hp
 have h2:=zdk l n R.hl
 have h3:=zdd R.lp n (by have:=R.hp;omega)
 have hv:=R.vpos
 have hlt:val p/val l<g:=by
  rcases h with h | h
  ·omega
  ·exact zsl h2 h1 h3 hv ((zrm hr).1 h)
 have hg1:1<=g:=Nat.succ_le_of_lt (Nat.lt_of_le_of_lt (Nat.zero_le _) hlt)
 refine⟨Nat.le_sub_one_of_lt hlt,hg1,?_⟩
 rw[<-hr]
 obtain⟨g,rfl⟩:∃k,g=k+1:=⟨g-1,by omega⟩
 rw[Nat.add_sub_cancel,Nat.add_mul,Nat.one_mul]
 omega
theorem zzl.pass {g r:Nat} (hr:g*l[n+1]'(by have:=R.hl;omega)+r=p[n+2]'(by have:=R.hp;omega)*4294967296+p[n+1]'(by have:=R.hp;omega))
 (hg:g<4294967296) (h:¬r*4294967296+p[n]'(by have:=R.hp;omega)<g*l[n]'(by have:=R.hl;omega)):g<=val p/val l+1:=by
 have h1:=zkh p n R.hp
 have h2:=zdk l n R.hl
 have h3:=zdd R.ll n (by have:=R.hl;omega)
 have ht:=R.top
 have h4:=fun x=>h ((zrm hr).2 x)
 exact digit_lower h2 h3 h1 R.vpos (Nat.le_of_not_lt h4) (by omega)
theorem zzl.break {g r:Nat} (hr:g*l[n+1]'(by have:=R.hl;omega)+r=p[n+2]'(by have:=R.hp;omega)*4294967296+p[n+1]'(by have:=R.hp;omega))
 (h:4294967296<=r):g<4294967296/\g<=val p/val l+1:=by
 have hf:=R.first_le
 have e2:=R.lp _ (List.getElem_mem (h:=show n+1<p.length by have:=R.hp;omega))
 have e3:=R.ll _ (List.getElem_mem (h:=show n<l.length by have:=R.hl;omega))
 have ht:=R.top
 have hg:g<4294967296:=by
  rcases Nat.lt_or_ge g 4294967296 with h' | h'
  ·exact h'
  ·exfalso
   have:=Nat.mul_le_mul_right (l[n+1]'(by have:=R.hl;omega)) h'
   have:=Nat.mul_le_mul_right 4294967296 hf
   omega
 refine⟨hg,R.pass hr hg ?_⟩
 have :g*l[n]'(by have:=R.hl;omega)<=4294967295*4294967295:=Nat.mul_le_mul (by omega) (by omega)
 omega
theorem zzl.sub0 {g:Nat} {p1:List Nat} (hq:val p/val l<=g) (hg:g<=val p/val l+1) (h1:val p1+g*val l=val p):g=val p/val l/\val p1=val p%val l:=by
 have hd:=Nat.div_add_mod (val p) (val l)
 have hm:=Nat.mod_lt (val p) R.vpos
 have hgq:g=val p/val l:=by
  have :g*val l<=val p:=by omega
  have:=(Nat.le_div_iff_mul_le R.vpos).2 this
  omega
 refine⟨hgq,?_⟩
 rw[hgq]at h1
 rw[Nat.mul_comm]at hd
 omega
theorem zzl.sub1 {g b:Nat} {p1 p2:List Nat} (hq:val p/val l<=g) (hg:g<=val p/val l+1) (l1:Lm p1) (n1:p1.length=n+3) (l2:Lm p2) (n2:p2.length=n+3)
 (h1:val p1+g*val l=val p+pw (n+3)) (h2:val p2+b*pw (n+3)=val p1+val l):g-1=val p/val l/\1<=g/\val p2=val p%val l:=by
 have hd:=Nat.div_add_mod (val p) (val l)
 have hm:=Nat.mod_lt (val p) R.vpos
 have b1:=zoe l1
 have b2:=zoe l2
 rw[n1]at b1
 rw[n2]at b2
 have hlt:val p<g*val l:=by omega
 have hgq:val p/val l<g:=by
  rw[Nat.div_lt_iff_lt_mul R.vpos];exact hlt
 have hg1:g=val p/val l+1:=by omega
 refine⟨by rw[hg1,Nat.add_sub_cancel],by rw[hg1];exact Nat.succ_pos _,?_⟩
 rw[hg1,Nat.add_mul,Nat.one_mul]at h1
 rw[Nat.mul_comm]at hd
 have hl:val l<pw (n+3):=by
  have:=zoe R.ll
  rw[<-R.hl]at this
  have:=zzu (show n+2<=n+3 by omega)
  omega
 have :b=1:=by
  rcases Nat.lt_or_ge b 1 with hb | hb
  ·obtain rfl:b=0:=by omega
   omega
  ·rcases Nat.lt_or_ge b 2 with hb2 | hb2
   ·omega
   ·have:=Nat.mul_le_mul_right (pw (n+3)) hb2
    omega
 subst this
 omega
end
theorem last_pos {n:Nat} (h:n≠0):∀ (hl:zda n-1<(zla n).length),0<(zla n)[zda n-1]:=by
 intro hl
 have h0:zda n≠0:=fun e=>h (zta.1 e)
 have h1:=zia (zla n) (zda n-1) hl
 have e:zda n-1+1=zda n:=by omega
 rw[e,List.take_of_length_le (show zda n<=zda n from Nat.le_refl _),zha]at h1
 rcases Nat.eq_zero_or_pos ((zla n)[zda n-1])with h2 | h2
 ·exfalso
  rw[h2,Nat.mul_zero,Nat.add_zero]at h1
  have h3:=zdd (zrb n) (zda n-1) (by omega)
  rw[<-h1]at h3
  have:=zzb.2 h3
  omega
 ·exact h2
theorem pw_le_self {n:Nat} (h:n≠0):pw (zda n-1)<=n:=by
 have h0:zda n≠0:=fun e=>h (zta.1 e)
 exact zkn (by omega)
theorem norm_top {n s x:Nat} {lu:List Nat} (hn:n≠0) (hx:(zla n)[zda n-1]? =some x) (h1:2147483648<=x*2^s) (h2:x*2^s<4294967296) (hs:s<32)
 (hl:lu.length=zda n+1) (hlm:Lm lu) (hv:val lu=2^s*n):
 val (lu.take (zda n))=2^s*n/\2147483648<=lu[zda n-1]'(by omega):=by
 have h0:zda n≠0:=fun e=>hn (zta.1 e)
 obtain⟨hlt,rfl⟩:=List.getElem?_eq_some_iff.1 hx
 have e1:=zia (zla n) (zda n-1) hlt
 have e0:zda n-1+1=zda n:=by omega
 rw[e0,List.take_of_length_le (show zda n<=zda n from Nat.le_refl _),zha]at e1
 have e2:=zdd (zrb n) (zda n-1) (by omega)
 have e3:=zia lu (zda n) (by omega)
 rw[List.take_of_length_le (by omega),hv]at e3
 have e4:=zia lu (zda n-1) (by omega)
 rw[e0]at e4
 have e5:=zdd hlm (zda n-1) (by omega)
 have e6:pw (zda n)=4294967296*pw (zda n-1):=by rw[<-zmb,e0]
 have hP:=pw_pos (zda n-1)
 have h5:((zla n)[zda n-1]+1)*2^s<=4294967296:=by
  have hpow:(4294967296:Nat)=2^(32-s)*2^s:=by rw[<-Nat.pow_add,Nat.sub_add_cancel (by omega)]
  rw[hpow]at h2 |-
  have:=Nat.lt_of_mul_lt_mul_right h2
  exact Nat.mul_le_mul_right _ this
 generalize (zla n)[zda n-1]=x at *
 generalize lu[zda n]=t at *
 generalize lu[zda n-1]'(by omega)=y at *
 generalize val (lu.take (zda n))=A at *
 generalize val (lu.take (zda n-1))=C at *
 generalize val ((zla n).take (zda n-1))=D at *
 rw[e6]at e3
 generalize pw (zda n-1)=P at *
 generalize 2^s=S at *
 have hlt2:S*n<4294967296*P:=by
  have a1:S*n<S*(P*(x+1)):=by
   have :n<P*(x+1):=by rw[Nat.mul_add,Nat.mul_one];omega
   have hS:0<S:=by
    rcases Nat.eq_zero_or_pos S with h | h
    ·subst h;omega
    ·exact h
   exact Nat.mul_lt_mul_of_pos_left this hS
  have a2:S*(P*(x+1))=(x+1)*S*P:=by grind
  have a3:(x+1)*S*P<=4294967296*P:=Nat.mul_le_mul_right P h5
  omega
 have ht:t=0:=by
  rcases Nat.eq_zero_or_pos t with h | h
  ·exact h
  ·exfalso
   have :4294967296*P*1<=4294967296*P*t:=Nat.mul_le_mul_left _ h
   omega
 subst ht
 rw[Nat.mul_zero,Nat.add_zero]at e3
 refine⟨e3.symm,?_⟩
 have b1:2147483648*P<=S*n:=by
  have c1:2147483648*P<=x*S*P:=Nat.mul_le_mul_right P h1
  have c2:S*n=S*D+x*S*P:=by rw[e1];grind
  omega
 rcases Nat.lt_or_ge y 2147483648 with hy | hy
 ·exfalso
  have :P*(y+1)<=P*2147483648:=Nat.mul_le_mul_left P hy
  rw[Nat.mul_add,Nat.mul_one]at this
  omega
 ·exact hy
theorem div_begin {m n s:Nat} (hn:n≠0) (h:n<=m):2^s*m<2^s*n*pw (zda m+1-zda n):=by
 have h0:zda n≠0:=fun e=>hn (zta.1 e)
 have h1:=pw_le_self hn
 have h2:=zhe m
 have h3:=zfb h
 have h4:pw (zda m)=pw (zda n-1)*pw (zda m+1-zda n):=by rw[<-pw_add];congr 1;omega
 rw[Nat.mul_assoc]
 refine Nat.mul_lt_mul_of_pos_left ?_ (Nat.pow_pos (by decide))
 rw[h4]at h2
 exact Nat.lt_of_lt_of_le h2 (Nat.mul_le_mul_right _ h1)
theorem znk {o:List Nat} {j n V:Nat} (hl:j+n<=o.length) (hlm:Lm o) (hV:V<pw n) (ho:val o<V*(4294967296*pw j)) (hj:j+(n+1)<=o.length):
 o=o.take j++(o.drop j).take (n+1)++o.drop (j+(n+1))/\val o=val (o.take j)+pw j*val ((o.drop j).take (n+1))/\val ((o.drop j).take (n+1))<V*4294967296/\val (o.drop (j+(n+1)))=0:=by
 have e1:o=o.take j++(o.drop j).take (n+1)++o.drop (j+(n+1)):=by
  rw[List.append_assoc,<-List.drop_drop,List.take_append_drop,List.take_append_drop]
 have e2:val o=val (o.take j)+pw j*(val ((o.drop j).take (n+1))+pw (n+1)*val (o.drop (j+(n+1)))):=by
  have:=congrArg val e1
  rw[List.append_assoc,zac,zac,List.length_take,List.length_take,List.length_drop,Nat.min_eq_left (by omega),Nat.min_eq_left (by omega)]at this
  exact this
 have hz:val (o.drop (j+(n+1)))=0:=by
  rcases Nat.eq_zero_or_pos (val (o.drop (j+(n+1))))with h | h
  ·exact h
  ·exfalso
   have a1:pw (n+1)*1<=pw (n+1)*val (o.drop (j+(n+1))):=Nat.mul_le_mul_left _ h
   have a2:pw j*pw (n+1)<=pw j*(val ((o.drop j).take (n+1))+pw (n+1)*val (o.drop (j+(n+1)))):=Nat.mul_le_mul_left _ (by omega)
   have a3:V*(4294967296*pw j)<=pw n*(4294967296*pw j):=Nat.mul_le_mul_right _ (by omega)
   have a4:pw j*pw (n+1)=pw n*(4294967296*pw j):=by rw[zmb];grind
   omega
 rw[hz,Nat.mul_zero,Nat.add_zero]at e2
 refine⟨e1,e2,?_,hz⟩
 have b1:pw j*val ((o.drop j).take (n+1))<pw j*(V*4294967296):=by
  have :V*(4294967296*pw j)=pw j*(V*4294967296):=by grind
  omega
 exact Nat.lt_of_mul_lt_mul_left b1
theorem round_total {M O O' A U V Q j q:Nat} (hM:M=V*(4294967296*pw j)*Q+O) (hO:O=A+pw j*U) (hA:A<pw j) (hV:0<V) (hq:q=U/V) (hO':O'=A+pw j*(U%V)):
 M=V*pw j*(q+4294967296*Q)+O'/\O'<V*pw j:=by
 have hd:=Nat.div_add_mod U V
 have hm:=Nat.mod_lt U hV
 rw[<-hq]at hd
 generalize U%V=r at *
 constructor
 ·subst hO' hO hM
  rw[<-hd]
  grind
 ·have h1:pw j*(r+1)<=pw j*V:=Nat.mul_le_mul_left _ hm
  rw[Nat.mul_add,Nat.mul_one]at h1
  rw[Nat.mul_comm V]
  omega
theorem rest_limb {a b P:Nat} (k:Nat) (hP:P*k=4294967296) (ha:a<4294967296):P*(((b*4294967296+a)/P)%4294967296)+a%P=a+4294967296*(b%P):=by
 have hP0:0<P:=by
  rcases Nat.eq_zero_or_pos P with h | h
  ·subst h;omega
  ·exact h
 have h1:(b*4294967296+a)/P=b*k+a/P:=by
  have :b*4294967296+a=P*(b*k)+a:=by rw[<-hP];grind
  rw[this,Nat.mul_add_div hP0]
 have h2:b*k+a/P=P*k*(b/P)+(k*(b%P)+a/P):=by
  have:=Nat.div_add_mod b P
  have e:b*k=(P*(b/P)+b%P)*k:=by rw[this]
  rw[e];grind
 have h3:k*(b%P)+a/P<4294967296:=by
  have hm:=Nat.mod_lt b hP0
  have h4:a/P<k:=by rw[Nat.div_lt_iff_lt_mul hP0,Nat.mul_comm,hP];exact ha
  have h5:k*(b%P+1)<=k*P:=Nat.mul_le_mul_left _ hm
  rw[Nat.mul_add,Nat.mul_one,Nat.mul_comm k P,hP]at h5
  omega
 rw[h1,h2,hP,Nat.mul_add_mod,Nat.mod_eq_of_lt h3,Nat.mul_add]
 have h6:=Nat.div_add_mod a P
 have h7:P*(k*(b%P))=4294967296*(b%P):=by rw[<-hP];grind
 omega
theorem rest_step {r o:List Nat} {k i P a b z:Nat} (hP:P*k=4294967296) (hi:i<r.length) (ho:val (o.take (i+1))=val (o.take i)+pw i*a) (ha:a<4294967296) (hz:z=((b*4294967296+a)/P)%4294967296) (c:Nat)
 (hv:P*val (r.take i)+c=val (o.take i)+pw i*(a%P)):
 P*val ((r.set i z).take (i+1))+c=val (o.take (i+1))+pw (i+1)*(b%P):=by
 have h:=rest_limb (b:=b) k hP ha
 rw[<-hz]at h
 rw[zkb r i z hi,ho,zmb]
 have h2:pw i*(P*z+a%P)=pw i*(a+4294967296*(b%P)):=by rw[h]
 generalize a%P=x at *
 generalize b%P=y at *
 grind
theorem zhd {ou A p p' C qd lv:List Nat} {Q:Nat} (HM1:val ou=val lv*pw (A.length+1)*val (qd.drop (A.length+1))+val (A++p++C)) (hA:Lm A)
 (hov:val (A++p++C)=val A+pw A.length*val p) (hC:val C=0) (hV:0<val lv) (hQ:val p/val lv=Q) (hp':val p'=val p%val lv) (hqd:A.length<qd.length):
 val ou=val lv*pw A.length*val ((qd.set A.length Q).drop A.length)+val (A++p'++C)/\val (A++p'++C)<val lv*pw A.length:=by
 have e1:val (A++p'++C)=val A+pw A.length*(val p%val lv):=by
  rw[List.append_assoc,zac,zac,hC,Nat.mul_zero,Nat.add_zero,hp']
 have e2:val ((qd.set A.length Q).drop A.length)=Q+4294967296*val (qd.drop (A.length+1)):=by
  rw[drop_set_of_lt qd _ _ hqd];rfl
 rw[zmb]at HM1
 have:=round_total HM1 hov (zoe hA) hV hQ.symm e1
 rw[e2]
 exact this
theorem limb_zero' {a P x Q y v:Nat} (e:v=a+P*x+Q*y) (hPQ:P<=Q) (h:v<P):x=0/\a=v:=by
 have h0:x=0:=by
  rcases Nat.eq_zero_or_pos x with h1 | h1
  ·exact h1
  ·have :P*1<=P*x:=Nat.mul_le_mul_left _ h1
   omega
 have h2:y=0:=by
  rcases Nat.eq_zero_or_pos y with h1 | h1
  ·exact h1
  ·have a:Q*1<=Q*y:=Nat.mul_le_mul_left _ h1
   omega
 subst h0 h2
 exact⟨rfl,by simpa using e.symm⟩
theorem limb_zero {l:List Nat} {k:Nat} (hk:k<l.length) (h:val l<pw k):l[k]=0/\val (l.take k)=val l:=
 limb_zero' (zag l k hk) (zzu (Nat.le_succ k)) h
theorem div_read' {m n P q o V:Nat} (hn:n≠0) (hP:0<P) (hV:V=P*n) (h1:P*m=V*q+o) (h2:o<V):q=m/n/\o=P*(m%n):=by
 subst hV
 have hn':0<n:=Nat.pos_of_ne_zero hn
 have hq:q=m/n:=by
  have a1:(P*m)/(P*n)=m/n:=Nat.mul_div_mul_left _ _ hP
  have a2:(P*m)/(P*n)=q:=by
   rw[h1,Nat.mul_add_div (Nat.mul_pos hP hn'),Nat.div_eq_of_lt h2,Nat.add_zero]
  rw[<-a1,a2]
 refine⟨hq,?_⟩
 have a1:(P*m)%(P*n)=P*(m%n):=Nat.mul_mod_mul_left _ _ _
 have a2:(P*m)%(P*n)=o:=by
  rw[h1,Nat.mul_add_mod,Nat.mod_eq_of_lt h2]
 rw[<-a1,a2]
theorem div_read {m n s q o V:Nat} (hn:n≠0) (hV:V=2^s*n) (h1:2^s*m=V*q+o) (h2:o<V):q=m/n/\o=2^s*(m%n):=
 div_read' hn (Nat.pow_pos (by decide)) hV h1 h2
theorem rest_read {P r o c x:Nat} (hP:0<P) (h:P*r+c=o) (hc:c<P) (ho:o=P*x):r=x:=by
 subst ho
 have h1:(P*r+c)/P=r:=by rw[Nat.mul_add_div hP,Nat.div_eq_of_lt hc,Nat.add_zero]
 rw[h,Nat.mul_div_cancel_left _ hP]at h1
 exact h1.symm
theorem rest_end' {o r:List Nat} {k P K x:Nat} (hP:0<P) (hl:k<o.length) (h0:0<o.length) (z:o[k]=0/\val (o.take k)=val o) (ho:val o=P*x) (hr:r.length=k)
 (h:P*val (r.take k)+o[0]%P=val (o.take k)+K*((o[k]?.getD 0)%P)):val r=x:=by
 rw[z.2,ho,List.getElem?_eq_getElem hl,z.1,List.take_of_length_le (Nat.le_of_eq hr)]at h
 rw[show(some 0).getD 0=0 from rfl,Nat.zero_mod,Nat.mul_zero,Nat.add_zero]at h
 exact rest_read hP h (Nat.mod_lt _ hP) rfl
theorem rest_end {o r:List Nat} {k s x:Nat} (hl:k<o.length) (h0:0<o.length) (z:o[k]=0/\val (o.take k)=val o) (ho:val o=2^s*x) (hr:r.length=k)
 (h:2^s*val (r.take k)+o[0]%2^s=val (o.take k)+pw k*((o[k]?.getD 0)%2^s)):val r=x:=
 rest_end' (Nat.pow_pos (by decide)) hl h0 z ho hr h
def zua (n:Nat):Nat:=if n=0 then 0 else n.log2+1
theorem zbj :zua 0=0:=rfl
theorem zwb {n k:Nat}:zua n<=k↔n<2^k:=by
 unfold zua
 split
 ·next h=>subst h;exact⟨fun _=>Nat.pow_pos (by decide),fun _=>Nat.zero_le _⟩
 ·next h=>rw[<-Nat.log2_lt h];omega
theorem zom {n:Nat} (h:n≠0):zua n=zua (n/2)+1:=by
 unfold zua
 rw[if_neg h,Nat.log2_def]
 by_cases h2:2<=n
 ·rw[if_pos h2,if_neg (by omega)]
 ·rw[if_neg h2,if_pos (by omega)]
theorem zld {n:Nat}:0<zua n↔n≠0:=by
 unfold zua;split<;>omega
theorem zyh {n:Nat}:zua n=0↔n=0:=by
 unfold zua;split<;>omega
theorem zse {n:Nat}:1<zua n↔1<n:=by
 have :zua n<=1↔n<2:=zwb
 omega
theorem zuk (k:Nat):pw k=2^(32*k):=by unfold pw;rw[Nat.pow_mul]
theorem shift_lt {a P t Q:Nat} (h:a<P):a+P*t<P*Q↔t<Q:=by
 constructor
 ·intro h1
  apply Nat.lt_of_not_le
  intro h2
  have:=Nat.mul_le_mul_left P h2
  omega
 ·intro h1
  have h2:P*(t+1)<=P*Q:=Nat.mul_le_mul_left P h1
  rw[Nat.mul_add]at h2
  omega
theorem nbits_add {a k t:Nat} (h:a<2^k) (ht:t≠0):zua (a+2^k*t)=k+zua t:=by
 have hj:∀j,zua (a+2^k*t)<=j↔k+zua t<=j:=by
  intro j
  have hp:=zld.2 ht
  rcases Nat.lt_or_ge j k with h1 | h1
  ·constructor
   ·intro h2
    have h3:=zwb.1 h2
    have h4:2^j<=2^k:=Nat.pow_le_pow_right (by decide) (by omega)
    have h5:2^k*1<=2^k*t:=Nat.mul_le_mul_left _ (Nat.pos_of_ne_zero ht)
    generalize 2^k=K at *
    generalize 2^j=J at *
    generalize K*t=Z at *
    omega
   ·intro h2;omega
  ·obtain⟨i,rfl⟩:∃i,j=k+i:=⟨j-k,by omega⟩
   rw[zwb,Nat.pow_add,shift_lt h,<-zwb]
   omega
 have h1:=(hj _).1 (Nat.le_refl _)
 have h2:=(hj _).2 (Nat.le_refl _)
 omega
theorem zdi {n:Nat} (h:n≠0):∃t,(zla n)[zda n-1]? =some t/\t≠0/\t<4294967296/\zua n=32*(zda n-1)+zua t:=by
 have hl:zda n≠0:=fun h'=>h (zta.1 h')
 have hlt:zda n-1<(zla n).length:=by unfold zda at *;omega
 refine⟨_,List.getElem?_eq_getElem hlt,?_⟩
 have hc:=clen_limbs n
 have ht:(zla n)[zda n-1]≠0:=by
  intro h0
  have e:=zbf (zla n) (zda n-1) hlt h0
  have e2:zda n-1+1=(zla n).length:=by unfold zda at *;omega
  rw[e2,List.take_length,hc]at e
  have:=zgj ((zla n).take (zda n-1))
  rw[<-e,List.length_take]at this
  omega
 refine⟨ht,zrb n _ (List.getElem_mem _),?_⟩
 have e:=zag (zla n) (zda n-1) hlt
 have e2:zda n-1+1=(zla n).length:=by unfold zda at *;omega
 have e3:val ((zla n).drop (zda n-1+1))=0:=by rw[e2,List.drop_length];rfl
 rw[e3,Nat.mul_zero,Nat.add_zero,zha,zuk]at e
 have hlo:val ((zla n).take (zda n-1))<2^(32*(zda n-1)):=by
  have:=zoe (show Lm ((zla n).take (zda n-1))from fun x hx=>zrb n x (List.mem_of_mem_take hx))
  rw[List.length_take,Nat.min_eq_left (by omega),zuk]at this
  exact this
 generalize (zla n)[zda n-1]=t at *
 generalize val ((zla n).take (zda n-1))=a at *
 have:=nbits_add hlo ht
 rw[<-e]at this
 exact this
def sgn (neg:Bool) (n:Nat):Int:=if neg then -(n:Int)else n
def fq (neg:Bool) (n d:Nat):Rat:=mkRat (sgn neg n) d
def fits (q:Rat):Prop:=zua q.num.natAbs<=4096/\zua q.den<=4096
instance (q :Rat):Decidable (fits q):=inferInstanceAs (Decidable (_/\_))
theorem zog (neg:Bool) (n:Nat):(sgn neg n).natAbs=n:=by unfold sgn;split<;>omega
theorem sgn_zero (neg:Bool):sgn neg 0=0:=by unfold sgn;split<;>omega
theorem sgn_div (neg:Bool) (n g:Nat) (h:g∣n):sgn neg n/(g:Int)=sgn neg (n/g):=by
 unfold sgn
 split
 ·rw[Int.neg_ediv_of_dvd (Int.natCast_dvd_natCast.2 h)];simp
 ·simp
theorem fq_num (neg:Bool) (n d:Nat) (hd:d≠0):(fq neg n d).num=sgn neg (n/Nat.gcd n d):=by
 unfold fq
 rw[Rat.num_mkRat,if_neg hd,zog,Nat.gcd_comm,sgn_div _ _ _ (Nat.gcd_dvd_left n d)]
theorem zsm (neg:Bool) (n d:Nat) (hd:d≠0):(fq neg n d).den=d/Nat.gcd n d:=by
 unfold fq
 rw[Rat.den_mkRat,if_neg hd,zog,Nat.gcd_comm]
theorem zif (neg:Bool) (n d:Nat) (hd:d≠0):(fq neg n d).num.natAbs=n/Nat.gcd n d:=by
 rw[fq_num _ _ _ hd,zog]
theorem zsk (q:Rat):q<0↔q.num<0:=by
 have:=Rat.num_nonneg (q:=q)
 rw[<-Rat.not_le,<-this];omega
theorem sgn_neg_iff (neg:Bool) (n:Nat):sgn neg n<0↔neg=true/\0<n:=by
 unfold sgn;cases neg<;>simp <;>omega
theorem zqu (neg:Bool) (n d:Nat) (hd:d≠0):decide (fq neg n d<0)=(neg&&decide (0<n/Nat.gcd n d)):=by
 have :fq neg n d<0↔neg=true/\0<n/Nat.gcd n d:=by rw[zsk,fq_num _ _ _ hd,sgn_neg_iff]
 by_cases h:fq neg n d<0
 ·obtain⟨h1,h2⟩:=this.1 h
  rw[decide_eq_true h,decide_eq_true h2,h1];rfl
 ·have h2:¬ (neg=true/\0<n/Nat.gcd n d):=fun h'=>h (this.2 h')
  rw[decide_eq_false h]
  cases neg
  ·simp
  ·have :¬0<n/Nat.gcd n d:=fun h'=>h2 ⟨rfl,h'⟩
   simp only[Bool.true_and,decide_eq_false this]
theorem zvb (q:Rat):fq (decide (q<0)) q.num.natAbs q.den=q:=by
 unfold fq
 have :sgn (decide (q<0)) q.num.natAbs=q.num:=by
  unfold sgn
  have:=zsk q
  split
  ·next h=>have:=this.1 (by simpa using h);omega
  ·next h=>have h2:¬q<0:=by simpa using h
           have :¬q.num<0:=fun h'=>h2 (this.2 h')
           omega
 rw[this,Rat.mkRat_self]
theorem fq_add (s t:Bool) (a b c d:Nat) (hb:b≠0) (hd:d≠0):fq s a b+fq t c d=mkRat (sgn s (a*d)+sgn t (c*b)) (b*d):=by
 unfold fq
 rw[Rat.mkRat_add_mkRat _ _ hb hd]
 congr 2
 ·unfold sgn;split<;>simp[Int.neg_mul]
 ·unfold sgn;split<;>simp[Int.neg_mul]
theorem zhh (s:Bool) (a b c d:Nat) (hb:b≠0) (hd:d≠0):fq s a b+fq s c d=fq s (a*d+c*b) (b*d):=by
 rw[fq_add _ _ _ _ _ _ hb hd]
 unfold fq sgn
 congr 1
 split<;>omega
theorem fq_add_ge (s t:Bool) (a b c d:Nat) (hb:b≠0) (hd:d≠0) (hst:(s==t)=false) (h:c*b<=a*d):fq s a b+fq t c d=fq s (a*d-c*b) (b*d):=by
 rw[fq_add _ _ _ _ _ _ hb hd]
 unfold fq sgn
 congr 1
 cases s<;>cases t<;>simp at hst |- <;>omega
theorem fq_add_lt (s t:Bool) (a b c d:Nat) (hb:b≠0) (hd:d≠0) (hst:(s==t)=false) (h:a*d<=c*b):fq s a b+fq t c d=fq t (c*b-a*d) (b*d):=by
 rw[fq_add _ _ _ _ _ _ hb hd]
 unfold fq sgn
 congr 1
 cases s<;>cases t<;>simp at hst |- <;>omega
theorem fq_mul (s t:Bool) (a b c d:Nat):fq s a b*fq t c d=fq (s != t) (a*c) (b*d):=by
 unfold fq
 rw[Rat.mkRat_mul_mkRat]
 congr 1
 unfold sgn
 cases s<;>cases t<;>simp[Int.neg_mul,Int.mul_neg]
theorem zgd {n k:Nat} (h:zua n<=32*k):zda n<=k:=by
 rw[zzb,zuk];exact zwb.1 h
theorem zrg {n k:Nat} (h:zda n<=k):zua n<=32*k:=by
 rw[zzb,zuk]at h;exact zwb.2 h
theorem znm {m n:Nat} (h:m<=n):zua m<=zua n:=zwb.2 (Nat.lt_of_le_of_lt h (zwb.1 (Nat.le_refl _)))
def zgg (l:List Rat):Rat:=l.foldl (· + ·) 0
theorem zgl (l:List Rat) (x:Rat):zgg (l++ [x])=zgg l+x:=by unfold zgg;rw[List.foldl_append];rfl
theorem lsum_take (l:List Rat) (k:Nat) (h:k<l.length):zgg (l.take (k+1))=zgg (l.take k)+l[k]:=by rw[zxc l k h,zgl]
def wt (q:Rat):Nat:=if q.num=0 then 0 else zua q.num.natAbs+if q.den=1 then 0 else zua q.den
def wts (l:List Rat):Nat:=(l.map wt).sum
theorem zmg (x:Rat) (l:List Rat):wts (x::l)=wt x+wts l:=by simp[wts]
theorem zsu (l:List Rat) (x:Rat):wts (l++ [x])=wts l+wt x:=by simp[wts]
theorem wts_take (l:List Rat) (k:Nat) (h:k<l.length):wts (l.take (k+1))=wts (l.take k)+wt l[k]:=by rw[zxc l k h,zsu]
theorem wts_sub {l m:List Rat} (h:l.Sublist m):wts l<=wts m:=by
 induction h with
 | slnil=>exact Nat.le_refl _
 | cons x _ ih=>rw[zmg];omega
 | cons_cons x _ ih=>rw[zmg,zmg];omega
def slim (q:Rat) (k:Nat):Prop:=∃N D:Nat,D≠0/\q=fq false N D/\N+D<=2^k
theorem slim_zero :slim 0 0:=⟨0,1,by decide,by decide,by decide⟩
theorem slim_add {p q:Rat} {j k:Nat} (hp:slim p j) (hq:slim q k):slim (p+q) (j+k):=by
 obtain⟨N,D,h1,rfl,h2⟩:=hp
 obtain⟨n,d,h3,rfl,h4⟩:=hq
 refine⟨N*d+n*D,D*d,Nat.mul_ne_zero h1 h3,zhh _ _ _ _ _ h1 h3,?_⟩
 rw[Nat.pow_add]
 have h5:=Nat.mul_le_mul h2 h4
 rw[Nat.add_mul,Nat.mul_add,Nat.mul_add]at h5
 have e:n*D=D*n:=Nat.mul_comm _ _
 have:=Nat.zero_le (N*n)
 omega
theorem slim_wt (q:Rat) (h:0<=q):slim q (wt q):=by
 refine⟨q.num.natAbs,q.den,q.den_nz,?_,?_⟩
 ·have e:=zvb q
  rw[decide_eq_false (Rat.not_lt.2 h)]at e
  exact e.symm
 ·unfold wt
  have h0:zua q.num.natAbs<=zua q.num.natAbs:=Nat.le_refl _
  have h1:zua q.den<=zua q.den:=Nat.le_refl _
  rw[zwb]at h0 h1
  split
  ·next hz=>
   have e:q=0:=Rat.num_eq_zero.1 hz
   subst e
   decide
  ·split
   ·next hz hd=>simp only[hd,Nat.add_zero];omega
   ·next hz hd=>
    have hn:q.num.natAbs≠0:=by omega
    have hd0:=q.den_nz
    have h2:1<zua q.den:=zse.2 (by omega)
    have h3:0<zua q.num.natAbs:=zld.2 hn
    rw[Nat.pow_add]
    have e1:2^1<=2^zua q.num.natAbs:=Nat.pow_le_pow_right (by decide) h3
    have e2:2^1<=2^zua q.den:=Nat.pow_le_pow_right (by decide) (by omega)
    generalize 2^zua q.num.natAbs=A at *
    generalize 2^zua q.den=B at *
    obtain⟨a,rfl⟩:∃a,A=a+2:=⟨A-2,by omega⟩
    obtain⟨b,rfl⟩:∃b,B=b+2:=⟨B-2,by omega⟩
    have e3:(a+2)*(b+2)=a*b+2*a+2*b+4:=by grind
    rw[e3]
    have:=Nat.zero_le (a*b)
    omega
theorem slim_lsum (l:List Rat) (h:∀q∈l,0<=q):slim (zgg l) (wts l):=by
 have key:∀ (m:List Rat) (s:Rat) (k:Nat),slim s k->(∀q∈m,0<=q)->slim (m.foldl (· + ·) s) (k+wts m):=by
  intro m
  induction m with
  | nil=>intro s k hs _;exact hs
  | cons x m ih=>
    intro s k hs hm
    rw[List.foldl_cons,zmg,<-Nat.add_assoc]
    exact ih _ _ (slim_add hs (slim_wt x (hm x (by simp)))) (fun q hq=>hm q (by simp[hq]))
 have:=key l 0 0 slim_zero h
 rwa[Nat.zero_add]at this
theorem zre {n k:Nat} (h:n<2^k):zua n<=k:=zwb.2 h
theorem slim_fits {q:Rat} {k:Nat} (h:slim q k) (hk:k<=4095):fits q:=by
 obtain⟨N,D,h1,rfl,h3⟩:=h
 have h5:2^k<2^(k+1):=Nat.pow_lt_pow_right (by decide) (Nat.lt_succ_self k)
 have h6:k+1<=4096:=by omega
 refine⟨?_,?_⟩
 ·rw[zif _ _ _ h1]
  exact Nat.le_trans (zre (Nat.lt_of_le_of_lt (Nat.div_le_self _ _) (Nat.lt_of_le_of_lt (Nat.le_trans (Nat.le_add_right N D) h3) h5))) h6
 ·rw[zsm _ _ _ h1]
  exact Nat.le_trans (zre (Nat.lt_of_le_of_lt (Nat.div_le_self _ _) (Nat.lt_of_le_of_lt (Nat.le_trans (Nat.le_add_left D N) h3) h5))) h6
theorem lsum_fits {l m:List Rat} (hs:l.Sublist m) (h:∀q∈m,0<=q) (hw:wts m<=3800):fits (zgg l):=
 slim_fits (slim_lsum l (fun q hq=>h q (hs.subset hq))) (by have:=wts_sub hs;omega)
def sg :Nat->(Nat->Rat)->Rat
 | 0,_=>0
 | n+1,f=>sg n f+f n
theorem zma {n:Nat} {f g:Nat->Rat} (h:∀i,i<n->f i=g i):sg n f=sg n g:=by
 induction n with
 | zero=>rfl
 | succ n ih=>rw[sg,sg,ih (fun i hi=>h i (by omega)),h n (by omega)]
theorem zsi (n:Nat):sg n (fun _=>0)=0:=by
 induction n with
 | zero=>rfl
 | succ n ih=>rw[sg,ih];grind
theorem zvd (n:Nat) (f g:Nat->Rat):sg n (fun i=>f i+g i)=sg n f+sg n g:=by
 induction n with
 | zero=>simp[sg];grind
 | succ n ih=>simp only[sg,ih];grind
theorem zcb (n:Nat) (c:Rat) (f:Nat->Rat):sg n (fun i=>c*f i)=c*sg n f:=by
 induction n with
 | zero=>simp[sg]
 | succ n ih=>simp only[sg,ih];grind
theorem znc (n:Nat) (c:Rat) (f:Nat->Rat):sg n (fun i=>f i*c)=sg n f*c:=by
 induction n with
 | zero=>simp[sg]
 | succ n ih=>simp only[sg,ih];grind
theorem zdn (n m:Nat) (f:Nat->Nat->Rat):sg n (fun i=>sg m (fun j=>f i j))=sg m (fun j=>sg n (fun i=>f i j)):=by
 induction n with
 | zero=>simp only[sg];rw[zsi]
 | succ n ih=>simp only[sg];rw[ih,<-zvd]
theorem zfd {m k:Nat} (h:k<m) (f:Nat->Rat):sg m (fun a=>if k=a then f a else 0)=f k:=by
 induction m with
 | zero=>omega
 | succ m ih=>
   rw[sg]
   by_cases hk:k=m
   ·subst hk
    rw[zma (g:=fun _=>0) (fun i hi=>if_neg (by omega)),zsi,if_pos rfl]
    grind
   ·rw[ih (by omega),if_neg hk]
    grind
def zlt (q:Rat) (k:Nat):Prop:=∃ (z:Int) (D:Nat),D≠0/\q=mkRat z D/\z.natAbs+D<=2^k
theorem slimS_zero :zlt 0 0:=⟨0,1,by decide,by decide+kernel,by decide⟩
theorem slimS_add {p q:Rat} {j k:Nat} (hp:zlt p j) (hq:zlt q k):zlt (p+q) (j+k):=by
 obtain⟨z,D,h1,rfl,h2⟩:=hp
 obtain⟨n,d,h3,rfl,h4⟩:=hq
 refine⟨z*d+n*D,D*d,Nat.mul_ne_zero h1 h3,Rat.mkRat_add_mkRat _ _ h1 h3,?_⟩
 rw[Nat.pow_add]
 have h5:=Nat.mul_le_mul h2 h4
 have h6:=Int.natAbs_add_le (z*d) (n*D)
 rw[Int.natAbs_mul,Int.natAbs_mul,Int.natAbs_natCast,Int.natAbs_natCast]at h6
 rw[Nat.add_mul,Nat.mul_add,Nat.mul_add]at h5
 have e:n.natAbs*D=D*n.natAbs:=Nat.mul_comm _ _
 have:=Nat.zero_le (z.natAbs*n.natAbs)
 omega
theorem slimS_mul {p q:Rat} {j k:Nat} (hp:zlt p j) (hq:zlt q k):zlt (p*q) (j+k):=by
 obtain⟨z,D,h1,rfl,h2⟩:=hp
 obtain⟨n,d,h3,rfl,h4⟩:=hq
 refine⟨z*n,D*d,Nat.mul_ne_zero h1 h3,Rat.mkRat_mul_mkRat _ _ _ _,?_⟩
 rw[Nat.pow_add]
 have h5:=Nat.mul_le_mul h2 h4
 rw[Int.natAbs_mul]
 rw[Nat.add_mul,Nat.mul_add,Nat.mul_add]at h5
 have:=Nat.zero_le (z.natAbs*d)
 have:=Nat.zero_le (D*n.natAbs)
 omega
theorem zzs (q:Rat):zlt q (wt q):=by
 refine⟨q.num,q.den,q.den_nz,(Rat.mkRat_self q).symm,?_⟩
 unfold wt
 have h0:zua q.num.natAbs<=zua q.num.natAbs:=Nat.le_refl _
 have h1:zua q.den<=zua q.den:=Nat.le_refl _
 rw[zwb]at h0 h1
 split
 ·next hz=>
  have e:q=0:=Rat.num_eq_zero.1 hz
  subst e
  decide
 ·split
  ·next hz hd=>simp only[hd,Nat.add_zero];omega
  ·next hz hd=>
   have hn:q.num.natAbs≠0:=by omega
   have hd0:=q.den_nz
   have h2:1<zua q.den:=zse.2 (by omega)
   have h3:0<zua q.num.natAbs:=zld.2 hn
   rw[Nat.pow_add]
   have e1:2^1<=2^zua q.num.natAbs:=Nat.pow_le_pow_right (by decide) h3
   have e2:2^1<=2^zua q.den:=Nat.pow_le_pow_right (by decide) (by omega)
   generalize 2^zua q.num.natAbs=A at *
   generalize 2^zua q.den=B at *
   obtain⟨a,rfl⟩:∃a,A=a+2:=⟨A-2,by omega⟩
   obtain⟨b,rfl⟩:∃b,B=b+2:=⟨B-2,by omega⟩
   have e3:(a+2)*(b+2)=a*b+2*a+2*b+4:=by grind
   rw[e3]
   have:=Nat.zero_le (a*b)
   omega
theorem ziu {q:Rat} {k:Nat} (h:zlt q k) (hk:k<=4095):fits q:=by
 obtain⟨z,D,h1,rfl,h3⟩:=h
 have e:mkRat z D=fq (decide (z<0)) z.natAbs D:=by
  unfold fq sgn
  by_cases hz:z<0
  ·rw[decide_eq_true hz,if_pos rfl];congr 1;omega
  ·rw[decide_eq_false hz,if_neg (by decide)];congr 1;omega
 rw[e]
 have h5:2^k<2^(k+1):=Nat.pow_lt_pow_right (by decide) (Nat.lt_succ_self k)
 have h6:k+1<=4096:=by omega
 refine⟨?_,?_⟩
 ·rw[zif _ _ _ h1]
  exact Nat.le_trans (zre (Nat.lt_of_le_of_lt (Nat.div_le_self _ _) (Nat.lt_of_le_of_lt (Nat.le_trans (Nat.le_add_right z.natAbs D) h3) h5))) h6
 ·rw[zsm _ _ _ h1]
  exact Nat.le_trans (zre (Nat.lt_of_le_of_lt (Nat.div_le_self _ _) (Nat.lt_of_le_of_lt (Nat.le_trans (Nat.le_add_left D z.natAbs) h3) h5))) h6
def sgN :Nat->(Nat->Nat)->Nat
 | 0,_=>0
 | n+1,f=>sgN n f+f n
theorem sgN_le {k n:Nat} (f:Nat->Nat) (h:k<=n):sgN k f<=sgN n f:=by
 induction n with
 | zero=>obtain rfl:k=0:=by omega
         exact Nat.le_refl _
 | succ n ih=>
   by_cases hk:k=n+1
   ·subst hk;exact Nat.le_refl _
   ·have:=ih (by omega);rw[sgN];omega
theorem slimS_sg {n:Nat} {f:Nat->Rat} {w:Nat->Nat} (h:∀i,i<n->zlt (f i) (w i)):zlt (sg n f) (sgN n w):=by
 induction n with
 | zero=>exact slimS_zero
 | succ n ih=>exact slimS_add (ih fun i hi=>h i (by omega)) (h n (by omega))
theorem sg_mul_fits {n:Nat} {x y:Nat->Rat} (hw:sgN n (fun i=>wt (x i)+wt (y i))<=3800) (k:Nat) (hk:k<=n):fits (sg k fun i=>x i*y i):=
 ziu (slimS_sg (w:=fun i=>wt (x i)+wt (y i)) fun i _=>slimS_mul (zzs _) (zzs _)) (by have:=sgN_le (fun i=>wt (x i)+wt (y i)) hk;omega)
theorem mul_fits26 {x y:Rat} (hw:wt x+wt y<=3800):fits (x*y):=ziu (slimS_mul (zzs _) (zzs _)) (by omega)
def over (D B:Nat) (q:Rat):Prop:=∃z:Int,q=mkRat z D/\z.natAbs<=B
theorem over.zero (D B:Nat):over D B 0:=⟨0,by simp,by simp⟩
theorem over.mono {D A B:Nat} {q:Rat} (h:over D A q) (hB:A<=B):over D B q:=by
 obtain⟨z,h1,h2⟩:=h
 exact⟨z,h1,by omega⟩
theorem over.add {D A B:Nat} {p q:Rat} (hD:D≠0) (hp:over D A p) (hq:over D B q):over D (A+B) (p+q):=by
 obtain⟨y,rfl,h1⟩:=hp
 obtain⟨z,rfl,h2⟩:=hq
 refine⟨y+z,?_,?_⟩
 ·rw[Rat.mkRat_add_mkRat _ _ hD hD,<-Int.add_mul]
  exact Rat.mkRat_mul_right hD
 ·have:=Int.natAbs_add_le y z
  omega
theorem over.neg {D A:Nat} {p:Rat} (hp:over D A p):over D A (-p):=by
 obtain⟨y,rfl,h1⟩:=hp
 exact⟨-y,by rw[Rat.neg_mkRat],by omega⟩
theorem over.mul {D E A B:Nat} {p q:Rat} (hp:over D A p) (hq:over E B q):over (D*E) (A*B) (p*q):=by
 obtain⟨y,rfl,h1⟩:=hp
 obtain⟨z,rfl,h2⟩:=hq
 exact⟨y*z,Rat.mkRat_mul_mkRat _ _ _ _,by rw[Int.natAbs_mul];exact Nat.mul_le_mul h1 h2⟩
theorem over.scale {D A m:Nat} {p:Rat} (hm:m≠0) (hp:over D A p):over (D*m) (A*m) p:=by
 obtain⟨y,rfl,h1⟩:=hp
 exact⟨y*m,(Rat.mkRat_mul_right hm).symm,by rw[Int.natAbs_mul,Int.natAbs_natCast];exact Nat.mul_le_mul_right _ h1⟩
theorem over.sg {D B n:Nat} {f:Nat->Rat} (hD:D≠0) (h:∀i,i<n->over D B (f i)):over D (n*B) (sg n f):=by
 induction n with
 | zero=>exact over.zero _ _
 | succ n ih=>rw[Nat.succ_mul];exact over.add hD (ih fun i hi=>h i (by omega)) (h n (by omega))
theorem over.fq {D B:Nat} {q:Rat} (h:over D B q):∃ (s:Bool) (n:Nat),q=fq s n D/\n<=B:=by
 obtain⟨z,rfl,h2⟩:=h
 refine⟨decide (z<0),z.natAbs,?_,h2⟩
 unfold Go.Proofs.YtlpdkbmmbdfoiaaGreat.fq sgn
 by_cases hz:z<0
 ·rw[decide_eq_true hz,if_pos rfl];congr 1;omega
 ·rw[decide_eq_false hz,if_neg (by decide)];congr 1;omega
theorem over.wt {D B a b:Nat} {q:Rat} (hD:D≠0) (h:over D B q) (ha:B<2^a) (hb:D<2^b):wt q<=a+b:=by
 obtain⟨s,n,rfl,h1⟩:=h.fq
 have h2:zua (Go.Proofs.YtlpdkbmmbdfoiaaGreat.fq s n D).num.natAbs<=a:=by
  rw[zif _ _ _ hD]
  exact zre (Nat.lt_of_le_of_lt (Nat.div_le_self _ _) (Nat.lt_of_le_of_lt h1 ha))
 have h3:zua (Go.Proofs.YtlpdkbmmbdfoiaaGreat.fq s n D).den<=b:=by
  rw[zsm _ _ _ hD]
  exact zre (Nat.lt_of_le_of_lt (Nat.div_le_self _ _) hb)
 unfold Go.Proofs.YtlpdkbmmbdfoiaaGreat.wt
 split
 ·omega
 ·split<;>omega
theorem over.fits {D B:Nat} {q:Rat} (hD:D≠0) (h:over D B q) (ha:B<2^4096) (hb:D<2^4096):fits q:=by
 obtain⟨s,n,rfl,h1⟩:=h.fq
 refine⟨?_,?_⟩
 ·rw[zif _ _ _ hD]
  exact zre (Nat.lt_of_le_of_lt (Nat.div_le_self _ _) (Nat.lt_of_le_of_lt h1 ha))
 ·rw[zsm _ _ _ hD]
  exact zre (Nat.lt_of_le_of_lt (Nat.div_le_self _ _) hb)
theorem inv_mk {p d:Nat} (hp:p≠0) (hd:d≠0):(mkRat (p:Int) d)⁻¹=mkRat (d:Int) p:=by
 rw[<-Rat.divInt_ofNat,<-Rat.divInt_ofNat,Rat.inv_divInt]
theorem over.one {D:Nat} (hD:D≠0):over D D 1:=⟨D,by
 have:=Rat.mkRat_self 1
 have h:=Rat.mkRat_mul_right (n:=1) (d:=1) hD
 rw[Int.one_mul,Nat.one_mul]at h
 rw[h];exact this.symm,by simp⟩
theorem zup (l:List Rat):zgg l=sg l.length (fun j=>l.getD j 0):=by
 have key:∀k,k<=l.length->zgg (l.take k)=sg k (fun j=>l.getD j 0):=by
  intro k
  induction k with
  | zero=>intro _;simp[sg,zgg]
  | succ k ih=>
    intro h
    rw[lsum_take l k (by omega),sg,ih (by omega)]
    simp[List.getD,List.getElem?_eq_getElem (show k<l.length by omega)]
 have:=key l.length (Nat.le_refl _)
 rwa[List.take_length]at this
end Go.Proofs.YtlpdkbmmbdfoiaaGreat
