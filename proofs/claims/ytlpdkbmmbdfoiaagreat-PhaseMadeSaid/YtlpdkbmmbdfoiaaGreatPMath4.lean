/- Lemmas. -/
import Derived.Test.YtlpdkbmmbdfoiaaGreatPMath3
set_option linter.unusedVariables false
namespace Go.Proofs.YtlpdkbmmbdfoiaaGreat
theorem last_pos {n:Nat} (h:n≠0):∀ (hl:zha n-1<(zoa n).length),0<(zoa n)[zha n-1]:=by
 intro hl;have h0:zha n≠0:=λ e=>h (zva.1 e)
 have h1:=zma (zoa n) (zha n-1) hl;have e:zha n-1+1=zha n:=zO;rw[e,zTL (show zha n<=zha n from zLR _),zka]at h1;rcases Nat.eq_zero_or_pos ((zoa n)[zha n-1])with h2 | h2
 ·exfalso;rw[h2,Nat.mul_zero,Nat.add_zero]at h1;have h3:=zae (zgc n) (zha n-1) zO;rw[<-h1]at h3;have:=znc.2 h3;omega
 ·exact h2
theorem pw_le_self {n:Nat} (h:n≠0):pw (zha n-1)<=n:=by
 have h0:zha n≠0:=λ e=>h (zva.1 e)
 exact zbr zO
theorem norm_top {n s x:Nat} {lu:List Nat} (hn:n≠0) (hx:(zoa n)[zha n-1]? =some x) (h1:2147483648<=x*2^s) (h2:x*2^s<4294967296) (hs:s<32)
 (hl:lu.length=zha n+1) (hlm:Lm lu) (hv:val lu=2^s*n):
 val (lu.take (zha n))=2^s*n/\2147483648<=lu[zha n-1]' zO:=by
 have h0:zha n≠0:=λ e=>hn (zva.1 e)
 obtain⟨hlt,rfl⟩:=List.getElem?_eq_some_iff.1 hx;have e1:=zma (zoa n) (zha n-1) hlt;have e0:zha n-1+1=zha n:=zO;rw[e0,zTL (show zha n<=zha n from zLR _),zka]at e1;have e2:=zae (zgc n) (zha n-1) zO;have e3:=zma lu (zha n) zO;rw[zTL zO,hv]at e3;have e4:=zma lu (zha n-1) zO;rw[e0]at e4;have e5:=zae hlm (zha n-1) zO;have e6:pw (zha n)=4294967296*pw (zha n-1):=by rw[<-zyb,e0]
 have hP:=pw_pos (zha n-1)
 have h5:((zoa n)[zha n-1]+1)*2^s<=4294967296:=by
  have hpow:(4294967296:Nat)=2^(32-s)*2^s:=by rw[<-Nat.pow_add,Nat.sub_add_cancel zO]
  rw[hpow]at h2 |-
  have:=Nat.lt_of_mul_lt_mul_right h2;exact zMR _ this
 generalize (zoa n)[zha n-1]=x at *
 generalize lu[zha n]=t at *
 generalize lu[zha n-1]' zO=y at *
 generalize val (lu.take (zha n))=A at *
 generalize val (lu.take (zha n-1))=C at *
 generalize val ((zoa n).take (zha n-1))=D at *
 rw[e6]at e3;generalize pw (zha n-1)=P at *
 generalize 2^s=S at *
 have hlt2:S*n<4294967296*P:=by
  have a1:S*n<S*(P*(x+1)):=by
   have :n<P*(x+1):=by rw[Nat.mul_add,Nat.mul_one];omega
   have hS:0<S:=by
    rcases Nat.eq_zero_or_pos S with h | h
    ·subst h;omega
    ·exact h
   exact Nat.mul_lt_mul_of_pos_left this hS
  have a2:S*(P*(x+1))=(x+1)*S*P:=by grind
  have a3:(x+1)*S*P<=4294967296*P:=zMR P h5;omega
 have ht:t=0:=by
  rcases Nat.eq_zero_or_pos t with h | h
  ·exact h
  ·exfalso;have :4294967296*P*1<=4294967296*P*t:=zML _ h;omega
 subst ht;rw[Nat.mul_zero,Nat.add_zero]at e3;refine⟨e3.symm,?_⟩
 have b1:2147483648*P<=S*n:=by
  have c1:2147483648*P<=x*S*P:=zMR P h1;have c2:S*n=S*D+x*S*P:=by rw[e1];grind
  omega
 rcases zOG y 2147483648 with hy | hy
 ·exfalso;have :P*(y+1)<=P*2147483648:=zML P hy;rw[Nat.mul_add,Nat.mul_one]at this;omega
 ·exact hy
theorem div_begin {m n s:Nat} (hn:n≠0) (h:n<=m):2^s*m<2^s*n*pw (zha m+1-zha n):=by
 have h0:zha n≠0:=λ e=>hn (zva.1 e)
 have h1:=pw_le_self hn;have h2:=zpf m;have h3:=zob h;have h4:pw (zha m)=pw (zha n-1)*pw (zha m+1-zha n):=by rw[<-pw_add];congr 1;omega
 rw[Nat.mul_assoc];refine Nat.mul_lt_mul_of_pos_left ?_ (Nat.pow_pos zD);rw[h4]at h2;exact zLM h2 (zMR _ h1)
theorem zzn {o:List Nat} {j n V:Nat} (hl:j+n<=o.length) (hlm:Lm o) (hV:V<pw n) (ho:val o<V*(4294967296*pw j)) (hj:j+(n+1)<=o.length):
 o=o.take j++(o.drop j).take (n+1)++o.drop (j+(n+1))/\val o=val (o.take j)+pw j*val ((o.drop j).take (n+1))/\val ((o.drop j).take (n+1))<V*4294967296/\val (o.drop (j+(n+1)))=0:=by
 have e1:o=o.take j++(o.drop j).take (n+1)++o.drop (j+(n+1)):=by
  rw[List.append_assoc,<-List.drop_drop,List.take_append_drop,List.take_append_drop]
 have e2:val o=val (o.take j)+pw j*(val ((o.drop j).take (n+1))+pw (n+1)*val (o.drop (j+(n+1)))):=by
  have:=congrArg val e1;rw[List.append_assoc,zwc,zwc,zTK,zTK,List.length_drop,Nat.min_eq_left zO,Nat.min_eq_left zO]at this;exact this
 have hz:val (o.drop (j+(n+1)))=0:=by
  rcases Nat.eq_zero_or_pos (val (o.drop (j+(n+1))))with h | h
  ·exact h
  ·exfalso;have a1:pw (n+1)*1<=pw (n+1)*val (o.drop (j+(n+1))):=zML _ h;have a2:pw j*pw (n+1)<=pw j*(val ((o.drop j).take (n+1))+pw (n+1)*val (o.drop (j+(n+1)))):=zML _ zO;have a3:V*(4294967296*pw j)<=pw n*(4294967296*pw j):=zMR _ zO;(have a4:pw j*pw (n+1)=pw n*(4294967296*pw j):=by rw[zyb];grind);omega
 rw[hz,Nat.mul_zero,Nat.add_zero]at e2;refine⟨e1,e2,?_,hz⟩
 have b1:pw j*val ((o.drop j).take (n+1))<pw j*(V*4294967296):=by
  have :V*(4294967296*pw j)=pw j*(V*4294967296):=by grind
  omega
 exact Nat.lt_of_mul_lt_mul_left b1
theorem round_total {M O O' A U V Q j q:Nat} (hM:M=V*(4294967296*pw j)*Q+O) (hO:O=A+pw j*U) (hA:A<pw j) (hV:0<V) (hq:q=U/V) (hO':O'=A+pw j*(U%V)):
 M=V*pw j*(q+4294967296*Q)+O'/\O'<V*pw j:=by
 have hd:=Nat.div_add_mod U V;have hm:=zML2 U hV;rw[<-hq]at hd;generalize U%V=r at *
 constructor
 ·subst hO' hO hM;rw[<-hd];grind
 ·have h1:pw j*(r+1)<=pw j*V:=zML _ hm;rw[Nat.mul_add,Nat.mul_one]at h1;rw[Nat.mul_comm V];omega
theorem rest_limb {a b P:Nat} (k:Nat) (hP:P*k=4294967296) (ha:a<4294967296):P*(((b*4294967296+a)/P)%4294967296)+a%P=a+4294967296*(b%P):=by
 have hP0:0<P:=by
  rcases Nat.eq_zero_or_pos P with h | h
  ·subst h;omega
  ·exact h
 have h1:(b*4294967296+a)/P=b*k+a/P:=by
  have :b*4294967296+a=P*(b*k)+a:=by rw[<-hP];grind
  rw[this,Nat.mul_add_div hP0]
 have h2:b*k+a/P=P*k*(b/P)+(k*(b%P)+a/P):=by
  have:=Nat.div_add_mod b P;have e:b*k=(P*(b/P)+b%P)*k:=by rw[this]
  rw[e];grind
 have h3:k*(b%P)+a/P<4294967296:=by
  have hm:=zML2 b hP0;have h4:a/P<k:=by rw[Nat.div_lt_iff_lt_mul hP0,Nat.mul_comm,hP];exact ha
  have h5:k*(b%P+1)<=k*P:=zML _ hm;rw[Nat.mul_add,Nat.mul_one,Nat.mul_comm k P,hP]at h5;omega
 rw[h1,h2,hP,Nat.mul_add_mod,Nat.mod_eq_of_lt h3,Nat.mul_add];have h6:=Nat.div_add_mod a P;have h7:P*(k*(b%P))=4294967296*(b%P):=by rw[<-hP];grind
 omega
theorem rest_step {r o:List Nat} {k i P a b z:Nat} (hP:P*k=4294967296) (hi:i<r.length) (ho:val (o.take (i+1))=val (o.take i)+pw i*a) (ha:a<4294967296) (hz:z=((b*4294967296+a)/P)%4294967296) (c:Nat)
 (hv:P*val (r.take i)+c=val (o.take i)+pw i*(a%P)):
 P*val ((r.set i z).take (i+1))+c=val (o.take (i+1))+pw (i+1)*(b%P):=by
 have h:=rest_limb (b:=b) k hP ha;rw[<-hz]at h;rw[zwb r i z hi,ho,zyb];have h2:pw i*(P*z+a%P)=pw i*(a+4294967296*(b%P)):=by rw[h]
 generalize a%P=x at *
 generalize b%P=y at *
 grind
theorem zge {ou A p p' C qd lv:List Nat} {Q:Nat} (HM1:val ou=val lv*pw (A.length+1)*val (qd.drop (A.length+1))+val (A++p++C)) (hA:Lm A)
 (hov:val (A++p++C)=val A+pw A.length*val p) (hC:val C=0) (hV:0<val lv) (hQ:val p/val lv=Q) (hp':val p'=val p%val lv) (hqd:A.length<qd.length):
 val ou=val lv*pw A.length*val ((qd.set A.length Q).drop A.length)+val (A++p'++C)/\val (A++p'++C)<val lv*pw A.length:=by
 have e1:val (A++p'++C)=val A+pw A.length*(val p%val lv):=by
  rw[List.append_assoc,zwc,zwc,hC,Nat.mul_zero,Nat.add_zero,hp']
 have e2:val ((qd.set A.length Q).drop A.length)=Q+4294967296*val (qd.drop (A.length+1)):=by
  rw[drop_set_of_lt qd _ _ hqd];rfl
 rw[zyb]at HM1;have:=round_total HM1 hov (zgg hA) hV hQ.symm e1;rw[e2];exact this
theorem limb_zero' {a P x Q y v:Nat} (e:v=a+P*x+Q*y) (hPQ:P<=Q) (h:v<P):x=0/\a=v:=by
 have h0:x=0:=by
  rcases Nat.eq_zero_or_pos x with h1 | h1
  ·exact h1
  ·have :P*1<=P*x:=zML _ h1;omega
 have h2:y=0:=by
  rcases Nat.eq_zero_or_pos y with h1 | h1
  ·exact h1
  ·have a:Q*1<=Q*y:=zML _ h1;omega
 subst h0 h2;exact⟨rfl,by simpa using e.symm⟩
theorem limb_zero {l:List Nat} {k:Nat} (hk:k<l.length) (h:val l<pw k):l[k]=0/\val (l.take k)=val l:=
 limb_zero' (zci l k hk) (pw_le (zLS k)) h
theorem div_read' {m n P q o V:Nat} (hn:n≠0) (hP:0<P) (hV:V=P*n) (h1:P*m=V*q+o) (h2:o<V):q=m/n/\o=P*(m%n):=by
 subst hV;have hn':0<n:=zPZ hn
 have hq:q=m/n:=by
  have a1:(P*m)/(P*n)=m/n:=Nat.mul_div_mul_left _ _ hP
  have a2:(P*m)/(P*n)=q:=by
   rw[h1,Nat.mul_add_div (Nat.mul_pos hP hn'),Nat.div_eq_of_lt h2,Nat.add_zero]
  rw[<-a1,a2]
 refine⟨hq,?_⟩;have a1:(P*m)%(P*n)=P*(m%n):=Nat.mul_mod_mul_left _ _ _
 have a2:(P*m)%(P*n)=o:=by
  rw[h1,Nat.mul_add_mod,Nat.mod_eq_of_lt h2]
 rw[<-a1,a2]
theorem div_read {m n s q o V:Nat} (hn:n≠0) (hV:V=2^s*n) (h1:2^s*m=V*q+o) (h2:o<V):q=m/n/\o=2^s*(m%n):=
 div_read' hn (Nat.pow_pos zD) hV h1 h2
theorem rest_read {P r o c x:Nat} (hP:0<P) (h:P*r+c=o) (hc:c<P) (ho:o=P*x):r=x:=by
 subst ho;have h1:(P*r+c)/P=r:=by rw[Nat.mul_add_div hP,Nat.div_eq_of_lt hc,Nat.add_zero]
 rw[h,Nat.mul_div_cancel_left _ hP]at h1;exact h1.symm
theorem rest_end' {o r:List Nat} {k P K x:Nat} (hP:0<P) (hl:k<o.length) (h0:0<o.length) (z:o[k]=0/\val (o.take k)=val o) (ho:val o=P*x) (hr:r.length=k)
 (h:P*val (r.take k)+o[0]%P=val (o.take k)+K*((o[k]?.getD 0)%P)):val r=x:=by
 rw[z.2,ho,zGE hl,z.1,zTL (Nat.le_of_eq hr)]at h;rw[show(some 0).getD 0=0 from rfl,Nat.zero_mod,Nat.mul_zero,Nat.add_zero]at h;exact rest_read hP h (zML2 _ hP) rfl
theorem rest_end {o r:List Nat} {k s x:Nat} (hl:k<o.length) (h0:0<o.length) (z:o[k]=0/\val (o.take k)=val o) (ho:val o=2^s*x) (hr:r.length=k)
 (h:2^s*val (r.take k)+o[0]%2^s=val (o.take k)+pw k*((o[k]?.getD 0)%2^s)):val r=x:=
 rest_end' (Nat.pow_pos zD) hl h0 z ho hr h
end Go.Proofs.YtlpdkbmmbdfoiaaGreat
