/- Lemmas. -/
import Derived.Test.YtkpedaflofejnaaGreatMNa7
set_option linter.unusedVariables false
namespace Go.Proofs.YtkpedaflofejnaaGreat
theorem zjo {U V U' V' P ul vl g:Nat} (hV:V=V'*P+vl) (hU:U=U'*P+ul) (hul:ul<P) (hV0:0<V) (h:U'<g*V'):U/V<g:=by
 rcases zOG (U/V) g with h1 | h1
 ·exact h1
 ·exfalso;have h2:g*V<=U:=zLT (zMR V h1) (Nat.div_mul_le_self U V);have h3:(U'+1)*P<=g*V'*P:=zMR P h;have h4:g*V=g*V'*P+g*vl:=by rw[hV,Nat.mul_add,Nat.mul_assoc]
  rw[Nat.add_mul,Nat.one_mul]at h3;omega
theorem digit_lower {U V U' V' P ul vl g:Nat} (hV:V=V'*P+vl) (hvl:vl<P) (hU:U=U'*P+ul) (hV0:0<V) (h:g*V'<=U') (hg:g<=V'+1):g<=U/V+1:=by
 cases g with
 | zero=>exact zZL _
 | succ g=>
   have h1:g*V<=U:=by
    (have a1:g*V=g*V'*P+g*vl:=by rw[hV,Nat.mul_add,Nat.mul_assoc]);have a2:g*vl<=g*P:=zML g zO;have a3:g*P<=V'*P:=zMR P zO;have a4:(g*V'+V')*P<=U'*P:=zMR P (by rw[Nat.succ_mul]at h;exact h);rw[Nat.add_mul]at a4;omega
   have:=(Nat.le_div_iff_mul_le hV0).2 h1;omega
theorem zqp {top next r head u2 g:Nat} (h:g*top+r=head):(r*4294967296+u2<g*next)↔(head*4294967296+u2<g*(top*4294967296+next)):=by
 subst h;have :g*(top*4294967296+next)=g*top*4294967296+g*next:=by rw[Nat.mul_add,Nat.mul_assoc]
 rw[this,Nat.add_mul];omega
theorem zwm (l:List Nat) (n:Nat) (h:n+2=l.length):val l=(l[n+1]' zO*4294967296+l[n]' zO)*pw n+val (l.take n):=by
 have h1:=zga l (n+1) zO;have h2:=zga l n zO;rw[zTL zO]at h1;rw[h1,h2,zrb];generalize l[n+1]' zO=b;generalize l[n]' zO=c;generalize pw n=P;generalize val (l.take n)=V;grind
theorem zpj (l:List Nat) (n:Nat) (h:n+3=l.length):val l=((l[n+2]' zO*4294967296+l[n+1]' zO)*4294967296+l[n]' zO)*pw n+val (l.take n):=by
 have h1:=zga l (n+2) zO;have h2:=zga l (n+1) zO;have h3:=zga l n zO;rw[zTL zO]at h1;have e1:pw (n+1)=4294967296*pw n:=zrb n;have e2:pw (n+2)=4294967296*(4294967296*pw n):=by rw[zrb (n+1),zrb n]
 rw[h1,h2,h3,e1,e2];generalize l[n+2]' zO=a;generalize l[n+1]' zO=b;generalize l[n]' zO=c;generalize pw n=P;generalize val (l.take n)=V;grind
theorem zrd {l:List Nat} (h:Lm l) (n:Nat) (hn:n<=l.length):val (l.take n)<pw n:=by
 have:=zqf (l:=l.take n) (λ x hx=>h x (List.mem_of_mem_take hx));rwa[zTK,Nat.min_eq_left hn]at this
structure zqo (p l:List Nat) (n:Nat):Prop where
 hp:n+3=p.length
 hl:n+2=l.length
 lp:Lm p
 ll:Lm l
 top:2147483648<=l[n+1]' zO
 lt:val p<val l*4294967296
section
variable {p l:List Nat} {n:Nat} (R:zqo p l n)
include R
theorem zqo.vpos :0<val l:=by
 have h:=zwm l n R.hl;have:=R.top;have h1:1*pw n<=(l[n+1]'(by have:=R.hl;omega)*4294967296+l[n]'(by have:=R.hl;omega))*pw n:=zMR _ zO;have:=pw_pos n;omega
theorem zqo.first_le :p[n+2]'(by have:=R.hp;omega)<=l[n+1]'(by have:=R.hl;omega):=by
 have h1:=zpj p n R.hp;have h2:=zwm l n R.hl;have h3:=zrd R.ll n (by have:=R.hl;omega);have h4:=R.lt;have e1:=R.ll _ (zGM (h:=show n<l.length by have:=R.hl;omega));generalize p[n+2]'(by have:=R.hp;omega)=a at *
 generalize p[n+1]'(by have:=R.hp;omega)=b at *
 generalize p[n]'(by have:=R.hp;omega)=c at *
 generalize l[n+1]'(by have:=R.hl;omega)=t at *
 generalize l[n]'(by have:=R.hl;omega)=s at *
 have hP:=pw_pos n;generalize pw n=P at *
 rcases zOG t a with h | h
 ·exfalso
  -- val l < (t + 1) * B * P, val p >= a B B P
  have i1:(t*4294967296+s+1)*P<=((t+1)*4294967296)*P:=zMR _ zO;have i2:((t+1)*4294967296*4294967296)*P<=((a*4294967296+b)*4294967296+c)*P:=zMR _ zO;rw[Nat.add_mul (t*4294967296+s),Nat.one_mul]at i1;have i3:((t+1)*4294967296*4294967296)*P=((t+1)*4294967296)*P*4294967296:=by rw[Nat.mul_right_comm]
  omega
 ·exact h
theorem zqo.start :let head:=p[n+2]'(by have:=R.hp;omega)*4294967296+p[n+1]'(by have:=R.hp;omega)
 val p/val l<=head/l[n+1]'(by have:=R.hl;omega)/\head/l[n+1]'(by have:=R.hl;omega)<=4294967297:=by
 have h1:=zpj p n R.hp;have h2:=zwm l n R.hl;have h3:=zrd R.lp n (by have:=R.hp;omega);have hv:=R.vpos;have hf:=R.first_le;have ht:=R.top;have e1:=R.lp _ (zGM (h:=show n<p.length by have:=R.hp;omega));have e2:=R.lp _ (zGM (h:=show n+1<p.length by have:=R.hp;omega));intro head;have hh:head=p[n+2]'(by have:=R.hp;omega)*4294967296+p[n+1]'(by have:=R.hp;omega):=rfl;rw[<-hh]at h1;generalize p[n+2]'(by have:=R.hp;omega)=a at *
 generalize p[n+1]'(by have:=R.hp;omega)=b at *
 generalize p[n]'(by have:=R.hp;omega)=c at *
 generalize l[n+1]'(by have:=R.hl;omega)=t at *
 generalize l[n]'(by have:=R.hl;omega)=s at *
 have hd:=Nat.div_add_mod head t;have hm:=zML2 head (show 0<t by omega);constructor
 ·have :val p/val l<head/t+1:=by
   refine zjo h2 h1 h3 hv ?_;generalize head/t=g at *
   (have e:(g+1)*(t*4294967296+s)=t*g*4294967296+t*4294967296+(g+1)*s:=by grind);rw[e];omega
  omega
 ·have :head/t<4294967298:=by
   rw[Nat.div_lt_iff_lt_mul zO];omega
  omega
theorem zqo.lt_B :val p/val l<4294967296:=by
 rw[Nat.div_lt_iff_lt_mul R.vpos,Nat.mul_comm];exact R.lt
theorem zqo.lower {g r:Nat} (hg:val p/val l<=g) (hr:g*l[n+1]'(by have:=R.hl;omega)+r=p[n+2]'(by have:=R.hp;omega)*4294967296+p[n+1]'(by have:=R.hp;omega))
 (h:4294967296<=g\/r*4294967296+p[n]'(by have:=R.hp;omega)<g*l[n]'(by have:=R.hl;omega)):val p/val l<=g-1/\1<=g/\(g-1)*l[n+1]'(by have:=R.hl;omega)+(r+l[n+1]'(by have:=R.hl;omega))=p[n+2]'(by have:=R.hp;omega)*4294967296+p[n+1]'(by have:=R.hp;omega):=by
 have hB:=R.lt_B;have h1:=zpj p n R.hp;have h2:=zwm l n R.hl;have h3:=zrd R.lp n (by have:=R.hp;omega);have hv:=R.vpos
 have hlt:val p/val l<g:=by
  rcases h with h | h
  ·omega
  ·exact zjo h2 h1 h3 hv ((zqp hr).1 h)
 have hg1:1<=g:=Nat.succ_le_of_lt (zLL (zZL _) hlt);refine⟨Nat.le_sub_one_of_lt hlt,hg1,?_⟩;rw[<-hr];obtain⟨g,rfl⟩:∃k,g=k+1:=⟨g-1,zO⟩;rw[Nat.add_sub_cancel,Nat.add_mul,Nat.one_mul];omega
theorem zqo.pass {g r:Nat} (hr:g*l[n+1]'(by have:=R.hl;omega)+r=p[n+2]'(by have:=R.hp;omega)*4294967296+p[n+1]'(by have:=R.hp;omega))
 (hg:g<4294967296) (h:¬r*4294967296+p[n]'(by have:=R.hp;omega)<g*l[n]'(by have:=R.hl;omega)):g<=val p/val l+1:=by
 have h1:=zpj p n R.hp;have h2:=zwm l n R.hl;have h3:=zrd R.ll n (by have:=R.hl;omega);have ht:=R.top;have h4:=λ x=>h ((zqp hr).2 x)
 exact digit_lower h2 h3 h1 R.vpos (Nat.le_of_not_lt h4) zO
theorem zqo.break {g r:Nat} (hr:g*l[n+1]'(by have:=R.hl;omega)+r=p[n+2]'(by have:=R.hp;omega)*4294967296+p[n+1]'(by have:=R.hp;omega))
 (h:4294967296<=r):g<4294967296/\g<=val p/val l+1:=by
 have hf:=R.first_le;have e2:=R.lp _ (zGM (h:=show n+1<p.length by have:=R.hp;omega));have e3:=R.ll _ (zGM (h:=show n<l.length by have:=R.hl;omega));have ht:=R.top
 have hg:g<4294967296:=by
  rcases zOG g 4294967296 with h' | h'
  ·exact h'
  ·exfalso;have:=zMR (l[n+1]'(by have:=R.hl;omega)) h';have:=zMR 4294967296 hf;omega
 refine⟨hg,R.pass hr hg ?_⟩;have :g*l[n]'(by have:=R.hl;omega)<=4294967295*4294967295:=zMM zO zO;omega
theorem zqo.sub0 {g:Nat} {p1:List Nat} (hq:val p/val l<=g) (hg:g<=val p/val l+1) (h1:val p1+g*val l=val p):g=val p/val l/\val p1=val p%val l:=by
 have hd:=Nat.div_add_mod (val p) (val l);have hm:=zML2 (val p) R.vpos
 have hgq:g=val p/val l:=by
  have :g*val l<=val p:=zO;have:=(Nat.le_div_iff_mul_le R.vpos).2 this;omega
 refine⟨hgq,?_⟩;rw[hgq]at h1;rw[Nat.mul_comm]at hd;omega
theorem zqo.sub1 {g b:Nat} {p1 p2:List Nat} (hq:val p/val l<=g) (hg:g<=val p/val l+1) (l1:Lm p1) (n1:p1.length=n+3) (l2:Lm p2) (n2:p2.length=n+3)
 (h1:val p1+g*val l=val p+pw (n+3)) (h2:val p2+b*pw (n+3)=val p1+val l):g-1=val p/val l/\1<=g/\val p2=val p%val l:=by
 have hd:=Nat.div_add_mod (val p) (val l);have hm:=zML2 (val p) R.vpos;have b1:=zqf l1;have b2:=zqf l2;rw[n1]at b1;rw[n2]at b2;have hlt:val p<g*val l:=zO
 have hgq:val p/val l<g:=by
  rw[Nat.div_lt_iff_lt_mul R.vpos];exact hlt
 have hg1:g=val p/val l+1:=zO;refine⟨by rw[hg1,Nat.add_sub_cancel],by rw[hg1];exact Nat.succ_pos _,?_⟩;rw[hg1,Nat.add_mul,Nat.one_mul]at h1;rw[Nat.mul_comm]at hd
 have hl:val l<pw (n+3):=by
  have:=zqf R.ll;rw[<-R.hl]at this;have:=pw_le (show n+2<=n+3 by omega);omega
 have :b=1:=by
  rcases zOG b 1 with hb | hb
  ·obtain rfl:b=0:=zO;omega
  ·rcases zOG b 2 with hb2 | hb2
   ·omega
   ·have:=zMR (pw (n+3)) hb2;omega
 subst this;omega
end
theorem last_pos {n:Nat} (h:n≠0):∀ (hl:zda n-1<(zja n).length),0<(zja n)[zda n-1]:=by
 intro hl;have h0:zda n≠0:=λ e=>h (zqa.1 e)
 have h1:=zga (zja n) (zda n-1) hl;have e:zda n-1+1=zda n:=zO;rw[e,zTL (show zda n<=zda n from zLR _),zfa]at h1;rcases Nat.eq_zero_or_pos ((zja n)[zda n-1])with h2 | h2
 ·exfalso;rw[h2,Nat.mul_zero,Nat.add_zero]at h1;have h3:=zrd (zvb n) (zda n-1) zO;rw[<-h1]at h3;have:=zcc.2 h3;omega
 ·exact h2
theorem pw_le_self {n:Nat} (h:n≠0):pw (zda n-1)<=n:=by
 have h0:zda n≠0:=λ e=>h (zqa.1 e)
 exact zrq zO
theorem norm_top {n s x:Nat} {lu:List Nat} (hn:n≠0) (hx:(zja n)[zda n-1]? =some x) (h1:2147483648<=x*2^s) (h2:x*2^s<4294967296) (hs:s<32)
 (hl:lu.length=zda n+1) (hlm:Lm lu) (hv:val lu=2^s*n):
 val (lu.take (zda n))=2^s*n/\2147483648<=lu[zda n-1]' zO:=by
 have h0:zda n≠0:=λ e=>hn (zqa.1 e)
 obtain⟨hlt,rfl⟩:=List.getElem?_eq_some_iff.1 hx;have e1:=zga (zja n) (zda n-1) hlt;have e0:zda n-1+1=zda n:=zO;rw[e0,zTL (show zda n<=zda n from zLR _),zfa]at e1;have e2:=zrd (zvb n) (zda n-1) zO;have e3:=zga lu (zda n) zO;rw[zTL zO,hv]at e3;have e4:=zga lu (zda n-1) zO;rw[e0]at e4;have e5:=zrd hlm (zda n-1) zO;have e6:pw (zda n)=4294967296*pw (zda n-1):=by rw[<-zrb,e0]
 have hP:=pw_pos (zda n-1)
 have h5:((zja n)[zda n-1]+1)*2^s<=4294967296:=by
  have hpow:(4294967296:Nat)=2^(32-s)*2^s:=by rw[<-Nat.pow_add,Nat.sub_add_cancel zO]
  rw[hpow]at h2 |-
  have:=Nat.lt_of_mul_lt_mul_right h2;exact zMR _ this
 generalize (zja n)[zda n-1]=x at *
 generalize lu[zda n]=t at *
 generalize lu[zda n-1]' zO=y at *
 generalize val (lu.take (zda n))=A at *
 generalize val (lu.take (zda n-1))=C at *
 generalize val ((zja n).take (zda n-1))=D at *
 rw[e6]at e3;generalize pw (zda n-1)=P at *
 generalize 2^s=S at *
 have hlt2:S*n<4294967296*P:=by
  have a1:S*n<S*(P*(x+1)):=by
   have :n<P*(x+1):=by rw[Nat.mul_add,Nat.mul_one];omega
   have hS:0<S:=by
    rcases Nat.eq_zero_or_pos S with h | h
    ·subst h;omega
    ·exact h
   exact Nat.mul_lt_mul_of_pos_left this hS
  have a2:S*(P*(x+1))=(x+1)*S*P:=by grind
  have a3:(x+1)*S*P<=4294967296*P:=zMR P h5;omega
 have ht:t=0:=by
  rcases Nat.eq_zero_or_pos t with h | h
  ·exact h
  ·exfalso;have :4294967296*P*1<=4294967296*P*t:=zML _ h;omega
 subst ht;rw[Nat.mul_zero,Nat.add_zero]at e3;refine⟨e3.symm,?_⟩
 have b1:2147483648*P<=S*n:=by
  have c1:2147483648*P<=x*S*P:=zMR P h1;have c2:S*n=S*D+x*S*P:=by rw[e1];grind
  omega
 rcases zOG y 2147483648 with hy | hy
 ·exfalso;have :P*(y+1)<=P*2147483648:=zML P hy;rw[Nat.mul_add,Nat.mul_one]at this;omega
 ·exact hy
theorem div_begin {m n s:Nat} (hn:n≠0) (h:n<=m):2^s*m<2^s*n*pw (zda m+1-zda n):=by
 have h0:zda n≠0:=λ e=>hn (zqa.1 e)
 have h1:=pw_le_self hn;have h2:=zcf m;have h3:=zfb h;have h4:pw (zda m)=pw (zda n-1)*pw (zda m+1-zda n):=by rw[<-pw_add];congr 1;omega
 rw[Nat.mul_assoc];refine Nat.mul_lt_mul_of_pos_left ?_ (Nat.pow_pos zD);rw[h4]at h2;exact zLM h2 (zMR _ h1)
theorem zin {o:List Nat} {j n V:Nat} (hl:j+n<=o.length) (hlm:Lm o) (hV:V<pw n) (ho:val o<V*(4294967296*pw j)) (hj:j+(n+1)<=o.length):
 o=o.take j++(o.drop j).take (n+1)++o.drop (j+(n+1))/\val o=val (o.take j)+pw j*val ((o.drop j).take (n+1))/\val ((o.drop j).take (n+1))<V*4294967296/\val (o.drop (j+(n+1)))=0:=by
 have e1:o=o.take j++(o.drop j).take (n+1)++o.drop (j+(n+1)):=by
  rw[List.append_assoc,<-List.drop_drop,List.take_append_drop,List.take_append_drop]
 have e2:val o=val (o.take j)+pw j*(val ((o.drop j).take (n+1))+pw (n+1)*val (o.drop (j+(n+1)))):=by
  have:=congrArg val e1;rw[List.append_assoc,zoc,zoc,zTK,zTK,List.length_drop,Nat.min_eq_left zO,Nat.min_eq_left zO]at this;exact this
 have hz:val (o.drop (j+(n+1)))=0:=by
  rcases Nat.eq_zero_or_pos (val (o.drop (j+(n+1))))with h | h
  ·exact h
  ·exfalso;have a1:pw (n+1)*1<=pw (n+1)*val (o.drop (j+(n+1))):=zML _ h;have a2:pw j*pw (n+1)<=pw j*(val ((o.drop j).take (n+1))+pw (n+1)*val (o.drop (j+(n+1)))):=zML _ zO;have a3:V*(4294967296*pw j)<=pw n*(4294967296*pw j):=zMR _ zO;(have a4:pw j*pw (n+1)=pw n*(4294967296*pw j):=by rw[zrb];grind);omega
 rw[hz,Nat.mul_zero,Nat.add_zero]at e2;refine⟨e1,e2,?_,hz⟩
 have b1:pw j*val ((o.drop j).take (n+1))<pw j*(V*4294967296):=by
  have :V*(4294967296*pw j)=pw j*(V*4294967296):=by grind
  omega
 exact Nat.lt_of_mul_lt_mul_left b1
theorem round_total {M O O' A U V Q j q:Nat} (hM:M=V*(4294967296*pw j)*Q+O) (hO:O=A+pw j*U) (hA:A<pw j) (hV:0<V) (hq:q=U/V) (hO':O'=A+pw j*(U%V)):
 M=V*pw j*(q+4294967296*Q)+O'/\O'<V*pw j:=by
 have hd:=Nat.div_add_mod U V;have hm:=zML2 U hV;rw[<-hq]at hd;generalize U%V=r at *
 constructor
 ·subst hO' hO hM;rw[<-hd];grind
 ·have h1:pw j*(r+1)<=pw j*V:=zML _ hm;rw[Nat.mul_add,Nat.mul_one]at h1;rw[Nat.mul_comm V];omega
theorem rest_limb {a b P:Nat} (k:Nat) (hP:P*k=4294967296) (ha:a<4294967296):P*(((b*4294967296+a)/P)%4294967296)+a%P=a+4294967296*(b%P):=by
 have hP0:0<P:=by
  rcases Nat.eq_zero_or_pos P with h | h
  ·subst h;omega
  ·exact h
 have h1:(b*4294967296+a)/P=b*k+a/P:=by
  have :b*4294967296+a=P*(b*k)+a:=by rw[<-hP];grind
  rw[this,Nat.mul_add_div hP0]
 have h2:b*k+a/P=P*k*(b/P)+(k*(b%P)+a/P):=by
  have:=Nat.div_add_mod b P;have e:b*k=(P*(b/P)+b%P)*k:=by rw[this]
  rw[e];grind
 have h3:k*(b%P)+a/P<4294967296:=by
  have hm:=zML2 b hP0;have h4:a/P<k:=by rw[Nat.div_lt_iff_lt_mul hP0,Nat.mul_comm,hP];exact ha
  have h5:k*(b%P+1)<=k*P:=zML _ hm;rw[Nat.mul_add,Nat.mul_one,Nat.mul_comm k P,hP]at h5;omega
 rw[h1,h2,hP,Nat.mul_add_mod,Nat.mod_eq_of_lt h3,Nat.mul_add];have h6:=Nat.div_add_mod a P;have h7:P*(k*(b%P))=4294967296*(b%P):=by rw[<-hP];grind
 omega
theorem rest_step {r o:List Nat} {k i P a b z:Nat} (hP:P*k=4294967296) (hi:i<r.length) (ho:val (o.take (i+1))=val (o.take i)+pw i*a) (ha:a<4294967296) (hz:z=((b*4294967296+a)/P)%4294967296) (c:Nat)
 (hv:P*val (r.take i)+c=val (o.take i)+pw i*(a%P)):
 P*val ((r.set i z).take (i+1))+c=val (o.take (i+1))+pw (i+1)*(b%P):=by
 have h:=rest_limb (b:=b) k hP ha;rw[<-hz]at h;rw[zqb r i z hi,ho,zrb];have h2:pw i*(P*z+a%P)=pw i*(a+4294967296*(b%P)):=by rw[h]
 generalize a%P=x at *
 generalize b%P=y at *
 grind
theorem zae {ou A p p' C qd lv:List Nat} {Q:Nat} (HM1:val ou=val lv*pw (A.length+1)*val (qd.drop (A.length+1))+val (A++p++C)) (hA:Lm A)
 (hov:val (A++p++C)=val A+pw A.length*val p) (hC:val C=0) (hV:0<val lv) (hQ:val p/val lv=Q) (hp':val p'=val p%val lv) (hqd:A.length<qd.length):
 val ou=val lv*pw A.length*val ((qd.set A.length Q).drop A.length)+val (A++p'++C)/\val (A++p'++C)<val lv*pw A.length:=by
 have e1:val (A++p'++C)=val A+pw A.length*(val p%val lv):=by
  rw[List.append_assoc,zoc,zoc,hC,Nat.mul_zero,Nat.add_zero,hp']
 have e2:val ((qd.set A.length Q).drop A.length)=Q+4294967296*val (qd.drop (A.length+1)):=by
  rw[drop_set_of_lt qd _ _ hqd];rfl
 rw[zrb]at HM1;have:=round_total HM1 hov (zqf hA) hV hQ.symm e1;rw[e2];exact this
theorem limb_zero' {a P x Q y v:Nat} (e:v=a+P*x+Q*y) (hPQ:P<=Q) (h:v<P):x=0/\a=v:=by
 have h0:x=0:=by
  rcases Nat.eq_zero_or_pos x with h1 | h1
  ·exact h1
  ·have :P*1<=P*x:=zML _ h1;omega
 have h2:y=0:=by
  rcases Nat.eq_zero_or_pos y with h1 | h1
  ·exact h1
  ·have a:Q*1<=Q*y:=zML _ h1;omega
 subst h0 h2;exact⟨rfl,by simpa using e.symm⟩
theorem limb_zero {l:List Nat} {k:Nat} (hk:k<l.length) (h:val l<pw k):l[k]=0/\val (l.take k)=val l:=
 limb_zero' (zjh l k hk) (pw_le (zLS k)) h
theorem div_read' {m n P q o V:Nat} (hn:n≠0) (hP:0<P) (hV:V=P*n) (h1:P*m=V*q+o) (h2:o<V):q=m/n/\o=P*(m%n):=by
 subst hV;have hn':0<n:=zPZ hn
 have hq:q=m/n:=by
  have a1:(P*m)/(P*n)=m/n:=Nat.mul_div_mul_left _ _ hP
  have a2:(P*m)/(P*n)=q:=by
   rw[h1,Nat.mul_add_div (Nat.mul_pos hP hn'),Nat.div_eq_of_lt h2,Nat.add_zero]
  rw[<-a1,a2]
 refine⟨hq,?_⟩;have a1:(P*m)%(P*n)=P*(m%n):=Nat.mul_mod_mul_left _ _ _
 have a2:(P*m)%(P*n)=o:=by
  rw[h1,Nat.mul_add_mod,Nat.mod_eq_of_lt h2]
 rw[<-a1,a2]
theorem div_read {m n s q o V:Nat} (hn:n≠0) (hV:V=2^s*n) (h1:2^s*m=V*q+o) (h2:o<V):q=m/n/\o=2^s*(m%n):=
 div_read' hn (Nat.pow_pos zD) hV h1 h2
theorem rest_read {P r o c x:Nat} (hP:0<P) (h:P*r+c=o) (hc:c<P) (ho:o=P*x):r=x:=by
 subst ho;have h1:(P*r+c)/P=r:=by rw[Nat.mul_add_div hP,Nat.div_eq_of_lt hc,Nat.add_zero]
 rw[h,Nat.mul_div_cancel_left _ hP]at h1;exact h1.symm
theorem rest_end' {o r:List Nat} {k P K x:Nat} (hP:0<P) (hl:k<o.length) (h0:0<o.length) (z:o[k]=0/\val (o.take k)=val o) (ho:val o=P*x) (hr:r.length=k)
 (h:P*val (r.take k)+o[0]%P=val (o.take k)+K*((o[k]?.getD 0)%P)):val r=x:=by
 rw[z.2,ho,zGE hl,z.1,zTL (Nat.le_of_eq hr)]at h;rw[show(some 0).getD 0=0 from rfl,Nat.zero_mod,Nat.mul_zero,Nat.add_zero]at h;exact rest_read hP h (zML2 _ hP) rfl
theorem rest_end {o r:List Nat} {k s x:Nat} (hl:k<o.length) (h0:0<o.length) (z:o[k]=0/\val (o.take k)=val o) (ho:val o=2^s*x) (hr:r.length=k)
 (h:2^s*val (r.take k)+o[0]%2^s=val (o.take k)+pw k*((o[k]?.getD 0)%2^s)):val r=x:=
 rest_end' (Nat.pow_pos zD) hl h0 z ho hr h
end Go.Proofs.YtkpedaflofejnaaGreat
