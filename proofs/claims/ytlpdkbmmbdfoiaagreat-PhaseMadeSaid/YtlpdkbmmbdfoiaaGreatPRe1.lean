/- Lemmas. -/
import Derived.Test.YtlpdkbmmbdfoiaaGreatPPp4
set_option linter.unusedVariables false
set_option linter.unusedSimpArgs false
namespace Go.Proofs.YtlpdkbmmbdfoiaaGreat
open Go.RowKit
theorem TMv.low {bt B:Nat} {w0 w w':World} (h:TMv bt w0 w) (hb:Below B w w') (hB:w0.heap.size<=B):TMv bt w0 w':=by
 refine⟨zLT h.size hb.size,λ g h1 h2=> ?_,λ p x hp hx=> ?_,λ p hp=> ?_,λ B' h1 h2=>(h.bw B' h1 h2).trans (hb.mono (zLT h2 hB))⟩
 ·rw[hb.block g zO];exact h.row g h1 h2
 ·have hl:=cell_lt hp;rw[hb.cell zO];exact h.cell p x hp hx
 ·rw[hb.frozen zO];exact h.frozen p hp
def Fr4 (w:World) (bt:Nat) (wx:World):Prop:=C4 wx w.heap.size (.string { data:=#[] }) (.slice none 0 0) (.slice none 0 0) (.slice none 0 0)/\TMv bt w wx
theorem Fr4.tmv {w wx wy:World} {bt:Nat} (h:Fr4 w bt wx) (hm:TMv bt wx wy):Fr4 w bt wy:=
 ⟨h.1.tmv hm zZ zZ zZ zZ,h.2.trans hm⟩
theorem Fr4.low {w wx wy:World} {bt B:Nat} (h:Fr4 w bt wx) (hb:Below B wx wy) (hB:w.heap.size<B):Fr4 w bt wy:=by
 obtain⟨⟨lt,c0,c1,c2,c3,f0,f1,f2,f3⟩,h2⟩:=h;exact⟨⟨zLM lt hb.size,by rw[hb.cell hB];exact c0,by rw[hb.cell hB];exact c1,by rw[hb.cell hB];exact c2,by rw[hb.cell hB];exact c3,by rw[hb.frozen hB];exact f0,by rw[hb.frozen hB];exact f1,by rw[hb.frozen hB];exact f2,by rw[hb.frozen hB];exact f3⟩,h2.low hb (zLO hB)⟩
theorem Fr4.set {w wx:World} {bt:Nat} (h:Fr4 w bt wx) (p:Addr) (hp:w.heap.size<p.block) (u:Value):Fr4 w bt (wx.setCell p u):=
 ⟨h.1.other zO u,h.2.set (zLO hp) u⟩
theorem Fr4.set3 {w wx:World} {bt b:Nat} (h:Fr4 w bt wx) (hb:w.heap.size<b) (u0 u1 u2:Value):Fr4 w bt (((wx.setCell ⟨b,0,none⟩ u0).setCell ⟨b,1,none⟩ u1).setCell ⟨b,2,none⟩ u2):=
 ((h.set ⟨b,0,none⟩ hb u0).set ⟨b,1,none⟩ hb u1).set ⟨b,2,none⟩ hb u2
theorem LwT.set3 {w:World} {bt:Nat} {l:List Nat} {B b5:Nat} {vs ve vr:Value} {rs:List Value} {S E:List Rat} {R:List (List Rat)} (h:LwT w bt l B b5 vs ve vr rs S E R) {b:Nat} {t:Bool} {a1 a2:Option Addr} {l1 k1 l2 k2:Nat} (hC:C3 w b (.bool t) (.slice a1 l1 k1) (.slice a2 l2 k2)) (hb:B<=b)
 (hs:vs.ownBlock=none\/vs.ownBlock≠some b) (he:ve.ownBlock=none\/ve.ownBlock≠some b) (hv:vr.ownBlock=none\/vr.ownBlock≠some b) (hrs:∀ (j:Nat) (h:j<rs.length),rs[j].ownBlock=none\/rs[j].ownBlock≠some b) (u0 u1 u2:Value):
 LwT (((w.setCell ⟨b,0,none⟩ u0).setCell ⟨b,1,none⟩ u1).setCell ⟨b,2,none⟩ u2) bt l B b5 vs ve vr rs S E R:=by
 have one:∀ (w:World) (k:Nat) (x u:Value),LwT w bt l B b5 vs ve vr rs S E R->w.cell? ⟨b,k,none⟩=some x->(∀z,x≠ .int .u32 z)->(∀z,x≠ .int .u8 z)->LwT (w.setCell ⟨b,k,none⟩ u) bt l B b5 vs ve vr rs S E R:=λ w k x u h hc h32 h8=>by
  obtain⟨⟨a,ht⟩,box,st,ex,ra,rl,rows,se,sz,b1,b2,b3⟩:=h;refine⟨⟨a,ht.set (by show b≠bt;omega) hc h8 u⟩,box.other (by show b≠b5;omega) u,st.over hs hc h32 u,ex.over he hc h32 u,ra.over hv u,rl,λ j h1 h2=>⟨(rows j h1 h2).1.over (hrs j h1) hc h32 u,(rows j h1 h2).2⟩,se,by simpa [World.setCell]using sz,b1,b2,b3⟩
 obtain⟨_,c0,c1,c2,_,_,_⟩:=hC;have h1:=one w 0 _ u0 h c0 zZ zZ;have h2:=one _ 1 _ u1 h1 (by rw[zCO _ _ _ _ (by simp)];exact c1) zZ zZ;exact one _ 2 _ u2 h2 (by rw[zCO _ _ _ _ (by simp),zCO _ _ _ _ (by simp)];exact c2) zZ zZ
theorem LwT.apart {w:World} {bt:Nat} {l:List Nat} {B b5:Nat} {vs ve vr:Value} {rs:List Value} {S E:List Rat} {R:List (List Rat)} (h:LwT w bt l B b5 vs ve vr rs S E R) {b:Nat} (hb:w.heap.size<=b):
 (vs.ownBlock=none\/vs.ownBlock≠some b)/\(ve.ownBlock=none\/ve.ownBlock≠some b)/\(vr.ownBlock=none\/vr.ownBlock≠some b)/\∀ (j:Nat) (h:j<rs.length),rs[j].ownBlock=none\/rs[j].ownBlock≠some b:=by
 have key:∀v:Value,(∀g,v.ownBlock=some g->B<=g/\g<w.heap.size)->v.ownBlock=none\/v.ownBlock≠some b:=λ v hv=>by
  cases ho:v.ownBlock with
  | none=>exact Or.inl rfl
  | some g=>
    (refine Or.inr λ e=> ?_);(injection e with e);have:=(hv g ho).2;omega
 exact⟨key _ h.st.block,key _ h.ex.block,key _ h.ra.block,λ j hj=>key _ (h.rows j hj (by rw[<-h.rl];exact hj)).1.block⟩
structure InL (w0:World) (bt:Nat) (l:List Nat) (B b5:Nat) (vs ve vr:Value) (wA:World) (rv:Value) (row:List Rat) (w:World):Prop where
 fr:zua w 38 wA.heap.size rv row
 mv:zkb B wA w
 tp:∃a,zyh w bt l B a
 bx:C4 w b5 (.string { data:=#[] }) vs vr ve
 fm:Fr4 w0 bt w
 nums:bt<B/\b5<B/\w0.heap.size<B/\B<=wA.heap.size/\zvc vs/\zvc vr/\zvc ve
section
variable {w0 wA w w':World} {bt B b5:Nat} {l:List Nat} {vs ve vr rv:Value} {row:List Rat}
theorem InL.bw (h:InL w0 bt l B b5 vs ve vr wA rv row w) (hb:Below w.heap.size w w'):InL w0 bt l B b5 vs ve vr wA rv row w':=by
 obtain⟨fr,mv,⟨a,tp⟩,bx,fm,nums⟩:=h;exact⟨fr.moves (zkb.bw hb) (zLR _),mv.trans (zkb.bw hb),⟨a,tp.bw hb⟩,bx.bS hb,fm.tmv (TMv.of_below hb),nums⟩
theorem InL.tmv (h:InL w0 bt l B b5 vs ve vr wA rv row w) {a':Nat} (hm:TMv bt w w') (hta:zbc w' bt l a'):InL w0 bt l B b5 vs ve vr wA rv row w':=by
 obtain⟨fr,mv,⟨a,tp⟩,bx,fm,n1,n2,n3,n4,n5,n6,n7⟩:=h;have hmv:zkb B w w':=hm.moves n1;exact⟨fr.moves hmv n4,mv.trans hmv,⟨a',tp.tmv hm hta⟩,bx.tmv hm zZ n5.noInt n6.noInt n7.noInt,fm.tmv hm,n1,n2,n3,n4,n5,n6,n7⟩
theorem InL.set (h:InL w0 bt l B b5 vs ve vr wA rv row w) {p:Addr} {x:Value} (hp:wA.heap.size<=p.block) (hr:rv.ownBlock=none\/rv.ownBlock≠some p.block) (hc:w.cell? p=some x) (hx:∀z,x≠ .int .u32 z) (hx8:∀z,x≠ .int .u8 z) (u:Value):
 InL w0 bt l B b5 vs ve vr wA rv row (w.setCell p u):=by
 obtain⟨fr,mv,⟨a,tp⟩,bx,fm,n1,n2,n3,n4,n5,n6,n7⟩:=h;exact⟨fr.over hr hc hx u,mv.high hp hc hx u,⟨a,tp.set zO hc hx8 u⟩,bx.other zO u,fm.set p zO u,n1,n2,n3,n4,n5,n6,n7⟩
theorem InL.grow (h:InL w0 bt l B b5 vs ve vr wA rv row w) {rv':Value} {row':List Rat} (hv:zua w' 38 wA.heap.size rv' row') (hg:w.grownBy w' rv.ownBlock) (hn:zrb w rv):InL w0 bt l B b5 vs ve vr wA rv' row' w':=by
 obtain⟨fr,mv,⟨a,tp⟩,bx,fm,n1,n2,n3,n4,n5,n6,n7⟩:=h;have hb:Below wA.heap.size w w':=zqd hg mv.size fr.block;have hb2:=hb.mono n4;exact⟨hv,mv.grow hg hn (λ k hk=>(fr.block k hk).1),⟨a,tp.low hb2 n1⟩,bx.bw hb2 n2,fm.low hb2 n3,n1,n2,n3,n4,n5,n6,n7⟩
theorem InL.set3 (h:InL w0 bt l B b5 vs ve vr wA rv row w) {b:Nat} {t0:Bool} {x0 y0:Value} (hC:C3 w b (.bool t0) x0 y0) (sx:zvc x0) (sy:zvc y0) (hb:wA.heap.size<=b) (hr:rv.ownBlock=none\/rv.ownBlock≠some b) (u0 u1 u2:Value):
 InL w0 bt l B b5 vs ve vr wA rv row (((w.setCell ⟨b,0,none⟩ u0).setCell ⟨b,1,none⟩ u1).setCell ⟨b,2,none⟩ u2):=by
 obtain⟨_,c0,c1,c2,_,_,_⟩:=hC;have h1:=h.set (p:=⟨b,0,none⟩) hb hr c0 zZ zZ u0;have h2:=h1.set (p:=⟨b,1,none⟩) hb hr (by rw[zCO _ _ _ _ (by simp)];exact c1) sx.noLimb sx.noByte u1;exact h2.set (p:=⟨b,2,none⟩) hb hr (by rw[zCO _ _ _ _ (by simp),zCO _ _ _ _ (by simp)];exact c2) sy.noLimb sy.noByte u2
theorem InL.start {rs:List Value} {S E:List Rat} {R:List (List Rat)} (c:LwT wA bt l B b5 vs ve vr rs S E R) (hF:Fr4 w0 bt wA) (hw:w0.heap.size<B):InL w0 bt l B b5 vs ve vr wA (.slice none 0 0) [] wA:=
 ⟨zua.nil _ _ _,zkb.refl _ _,c.tape,c.box,hF,c.bt5.1,c.bt5.2.1,hw,c.sz,c.st.sl,c.ra.sl,c.ex.sl⟩
theorem InL.lwt {rs:List Value} {S E:List Rat} {R:List (List Rat)} (h:InL w0 bt l B b5 vs ve vr wA rv row w) (c:LwT wA bt l B b5 vs ve vr rs S E R):LwT w bt l B b5 vs ve vr rs S E R/\zua w 38 B rv row/\(rv.ownBlock=none\/rv.ownBlock≠vs.ownBlock)/\(rv.ownBlock=none\/rv.ownBlock≠ve.ownBlock):=by
 have key:∀v:Value,(∀g,v.ownBlock=some g->B<=g/\g<wA.heap.size)->rv.ownBlock=none\/rv.ownBlock≠v.ownBlock:=λ v hv=>by
  cases ho:rv.ownBlock with
  | none=>exact Or.inl rfl
  | some g=>
    refine Or.inr (λ e=> ?_);have h1:=h.fr.block g ho;have h2:=hv g e.symm;omega
 exact⟨c.of h.mv h.tp h.bx,h.fr.mono c.sz,key _ c.st.block,key _ c.ex.block⟩
end
def RwL (i:Nat) (row:List Rat) (j:Nat):Prop:=row.length=j/\∀ (t:Nat) (h:t<row.length),(t=i+1->tfQ row[t])/\(t=i->row[t]=0)/\(tfQ row[t]\/row[t]=0)
theorem RwL.nil (i:Nat):RwL i [] 0:=⟨rfl,λ t h=>absurd h (zNZ t)⟩
theorem RwL.snoc {i j:Nat} {row:List Rat} {q:Rat} (h:RwL i row j) (h1:j=i+1->tfQ q) (h2:j=i->q=0) (h3:tfQ q\/q=0):RwL i (row++ [q]) (j+1):=by
 obtain⟨hl,hr⟩:=h;refine⟨by simp[hl],λ t ht=> ?_⟩;by_cases e:t<row.length
 ·rw[zAL e];exact hr t e
 ·obtain rfl:t=row.length:=by simp at ht;omega
  have e1:(row++ [q])[row.length]'ht=q:=by simp
  rw[e1,hl];exact⟨h1,h2,h3⟩
structure LT (n i left:Nat) (S E:List Rat) (R:List (List Rat)):Prop where
 sl:S.length=i
 el:E.length=i
 rl:R.length=i
 st:∃ks:List Nat,S=ks.map (λ k=>fq false k 8)/\ks.sum+left=8
 ex:∀ (j:Nat) (h:j<E.length),tfQ E[j]\/(E[j]=0/\j+1<n)
 rt:∀ (j:Nat) (h:j<R.length),RwL j R[j] n
 lf:i=n->left=0
theorem LT.zero (n:Nat) (hn:1<=n):LT n 0 8 [] [] []:=⟨rfl,rfl,rfl,⟨[],rfl,rfl⟩,λ j h=>absurd h (zNZ j),λ j h=>absurd h (zNZ j),λ h=>zO⟩
theorem LT.left8 {n i left:Nat} {S E:List Rat} {R:List (List Rat)} (h:LT n i left S E R):left<=8:=by obtain⟨ks,_,h⟩:=h.st;omega
theorem LT.step {n i left k:Nat} {S E:List Rat} {R:List (List Rat)} {q:Rat} {row:List Rat} (h:LT n i left S E R) (hk:k<=left) (hkn:i+1=n->k=left) (hq:tfQ q\/(q=0/\i+1<n)) (hr:RwL i row n):LT n (i+1) (left-k) (S++ [fq false k 8]) (E++ [q]) (R++ [row]):=by
 obtain⟨sl,el,rl,⟨ks,e1,e2⟩,ex,rt,lf⟩:=h;refine⟨by simp[sl],by simp[el],by simp[rl],⟨ks++ [k],by simp[e1],by simp;omega⟩,λ j hj=> ?_,λ j hj=> ?_,λ e=>by have:=hkn e;omega⟩
 ·by_cases e:j<E.length
  ·rw[zAL e];exact ex j e
  ·(obtain rfl:j=E.length:=by simp at hj;omega);(have e3:(E++ [q])[E.length]'hj=q:=by simp);rw[e3,el];exact hq
 ·by_cases e:j<R.length
  ·rw[zAL e];exact rt j e
  ·(obtain rfl:j=R.length:=by simp at hj;omega);(have e3:(R++ [row])[R.length]'hj=row:=by simp);rw[e3,rl];exact hr
def zze (most:Nat) (q:LQ):Prop:=∃n,1<=n/\n<=most/\LT n n 0 q.start q.exit q.rates
end Go.Proofs.YtlpdkbmmbdfoiaaGreat
namespace Go.Proofs.YtlpdkbmmbdfoiaaGreat
theorem sg_pairs (m n:Nat) (f:Nat->Rat):sg (m*n) f=sg m λ i=>sg n λ j=>f (i*n+j):=by
 induction m with
 | zero=>rw[Nat.zero_mul];rfl
 | succ m ih=>
   rw[Nat.succ_mul,zjk,ih];rfl
section
variable (a b:LQ)
def bfr :Mx:=λ r c=>if c=r then 0 else if c%b.start.length=r%b.start.length then rtQ a (r/b.start.length) (c/b.start.length)else if c/b.start.length=r/b.start.length then rtQ b (r%b.start.length) (c%b.start.length)else 0
def bfo (r:Nat):Rat:=zff a (r/b.start.length)+zff b (r%b.start.length)
end
section
variable {a b:LQ}
theorem ztg (hb:znb b) {r:Nat} (hr:r<bfN a b):r/b.start.length<a.start.length/\r%b.start.length<b.start.length:=
 ⟨Nat.div_lt_of_lt_mul (by rw[Nat.mul_comm];exact hr),zML2 _ (by have:=hb.n1;omega)⟩
theorem bfA_mm (ha:znb a) (hb:znb b) {r c:Nat} (hr:r<bfN a b) (hc:c<bfN a b):bfA a b r c=mmA (bfr a b) (bfo a b) r c:=by
 obtain⟨c1,c2⟩:=ztg hb hc;unfold bfA bf2 mmA bfr bfo;rw[zgm];by_cases h:c=r
 ·rw[zIP h,zIP h.symm]
 ·have h':¬r=c:=λ e=>h e.symm
  simp only[zIN h,zIN h'];by_cases h1:c%b.start.length=r%b.start.length
  ·simp only[zIP h1];grind
  ·simp only[zIN h1];by_cases h2:c/b.start.length=r/b.start.length
   ·simp only[zIP h2,zIP (zAI h2 c2)];grind
   ·simp only[zIN h2,zIN (λ e:c/b.start.length=r/b.start.length/\c%b.start.length<b.start.length=>h2 e.1)];grind
theorem bfr_diag (r:Nat):bfr a b r r=0:=by unfold bfr;rw[zIP rfl]
theorem bfr_nn (ha:znb a) (hb:znb b) {r c:Nat} (hr:r<bfN a b) (hc:c<bfN a b):0<=bfr a b r c:=by
 obtain⟨c1,c2⟩:=ztg hb hc;obtain⟨r1,r2⟩:=ztg hb hr;unfold bfr;split
 ·exact Rat.le_refl
 ·split
  ·exact(ha.rt_lim r1 c1).1
  ·split
   ·exact(hb.rt_lim r2 c2).1
   ·exact Rat.le_refl
theorem bfr_row (ha:znb a) (hb:znb b) {i j:Nat} (hi:i<a.start.length) (hj:j<b.start.length) (x:Nat->Rat):
 sg (bfN a b) (λ c=>bfr a b (i*b.start.length+j) c*x c)=sg a.start.length (λ k=>rtQ a i k*x (k*b.start.length+j))+sg b.start.length λ k=>rtQ b j k*x (i*b.start.length+k):=by
 unfold bfN;rw[sg_pairs]
 have e:∀k,k<a.start.length->(sg b.start.length λ t=>bfr a b (i*b.start.length+j) (k*b.start.length+t)*x (k*b.start.length+t))=
  rtQ a i k*x (k*b.start.length+j)+if i=k then sg b.start.length (λ t=>rtQ b j t*x (i*b.start.length+t))else 0:=λ k hk=>by
  have e1:(sg b.start.length λ t=>bfr a b (i*b.start.length+j) (k*b.start.length+t)*x (k*b.start.length+t))=
   sg b.start.length λ t=>(if j=t then rtQ a i k*x (k*b.start.length+t)else 0)+(if i=k then rtQ b j t*x (i*b.start.length+t)else 0):=zqa λ t ht=>by
   unfold bfr;rw[zhc ht,zrc ht,zhc hj,zrc hj];by_cases h1:i=k
   ·subst h1;by_cases h2:j=t
    ·subst h2;rw[zIP rfl,zIP rfl,zIP rfl,ha.rt_diag hi,hb.rt_diag hj];grind
    ·(have h3:¬i*b.start.length+t=i*b.start.length+j:=λ e=>h2 zO);rw[zIN h3,zIN (λ e=>h2 e.symm),zIP rfl,zIN h2,zIP rfl];grind
   ·have h3:¬k*b.start.length+t=i*b.start.length+j:=λ e=>by
     have h4:=congrArg (· /b.start.length) e;simp only[zhc ht,zhc hj]at h4;exact h1 h4.symm
    by_cases h2:j=t
    ·subst h2;rw[zIN h3,zIP rfl,zIP rfl,zIN h1];grind
    ·rw[zIN h3,zIN (λ e=>h2 e.symm),zIN (λ e=>h1 e.symm),zIN h2,zIN h1];grind
  rw[e1,zxg,zee (f:=λ t=>rtQ a i k*x (k*b.start.length+t)) hj];by_cases h1:i=k
  ·simp only[zIP h1]
  ·simp only[zIN h1];rw[zfi]
 rw[zqa e,zxg,zee (f:=λ _=>sg b.start.length (λ t=>rtQ b j t*x (i*b.start.length+t))) hi]
theorem bfr_sum (ha:znb a) (hb:znb b) {r:Nat} (hr:r<bfN a b):sg (bfN a b) (bfr a b r)=sg a.start.length (rtQ a (r/b.start.length))+sg b.start.length (rtQ b (r%b.start.length)):=by
 obtain⟨r1,r2⟩:=ztg hb hr;have h:=bfr_row ha hb r1 r2 (λ _=>1);rw[zgm]at h;have e:∀ (n:Nat) (f:Nat->Rat),sg n (λ c=>f c*1)=sg n f:=λ n f=>zqa λ i _=>Rat.mul_one _
 rw[e,e,e]at h;exact h
theorem bfr_le (ha:znb a) (hb:znb b) {r:Nat} (hr:r<bfN a b):sg (bfN a b) (bfr a b r)<=bfo a b r:=by
 obtain⟨r1,r2⟩:=ztg hb hr;rw[bfr_sum ha hb hr];unfold bfo;have h1:=ha.le_out r1;have h2:=hb.le_out r2;grind
theorem bf_esc (ha:znb a) (hb:znb b):∀k i,i<a.start.length->esc a.start.length (rtQ a) (zff a) k i->∀j,j<b.start.length->esc (bfN a b) (bfr a b) (bfo a b) k (i*b.start.length+j)
 | 0,i,hi,h,j,hj=>by
   have h1:sg a.start.length (rtQ a i)<zff a i:=h;(show sg _ _<_);rw[bfr_sum ha hb (zfm hi hj)];unfold bfo;rw[zhc hj,zrc hj];have h2:=hb.le_out hj;grind
 | k+1,i,hi,h,j,hj=>by
   rcases h with h | ⟨t,ht,hr,h⟩
   ·exact Or.inl (bf_esc ha hb k i hi h j hj)
   ·refine Or.inr ⟨t*b.start.length+j,zfm ht hj,?_,bf_esc ha hb k t ht h j hj⟩;unfold bfr;rw[zhc hj,zrc hj,zhc hj,zrc hj]
    have h3:¬t*b.start.length+j=i*b.start.length+j:=λ e=>by
     have h4:=congrArg (· /b.start.length) e;simp only[zhc hj]at h4;subst h4;rw[ha.rt_diag hi]at hr;exact absurd hr (by decide+kernel)
    rw[zIN h3,zIP rfl];exact hr
theorem bf_escP (ha:znb a) (hb:znb b):∀r,r<bfN a b->∃k,esc (bfN a b) (bfr a b) (bfo a b) k r:=λ r hr=>by
 obtain⟨r1,r2⟩:=ztg hb hr;obtain⟨k,hk⟩:=ha.escP _ r1;have h:=bf_esc ha hb k _ r1 hk _ r2;rw[zgm]at h;exact⟨k,h⟩
theorem bf_reg (ha:znb a) (hb:znb b):dt (bfN a b) (bfA a b)≠0:=by
 rw[zyd λ i j hi hj=>bfA_mm ha hb hi hj];exact mm_dt (λ i hi=>bfr_diag i) (λ i j hi hj=>bfr_nn ha hb hi hj) (λ i hi=>bfr_le ha hb hi) (bf_escP ha hb)
theorem bf_eq (ha:znb a) (hb:znb b):∀r,r<bfN a b->sg (bfN a b) (λ c=>bfA a b r c*befX a b c)=bfR a b r:=
 sol_eq (zcf (B:=λ i _=>bfR a b i) (bf_reg ha hb))
variable {D B:Nat}
theorem bf_sms (ha:znb a) (hb:znb b) (hsa:SmL D B a) (hsb:SmL D B b) (hD:D≠0) (hD1:D<=6720) (hB:D<=10*B) (hB1:10*B<=1814400) (hN:bfN a b<=4):SmS (bfN a b) D (10*B) (bfA a b) where
 n1:=Nat.mul_pos (by have:=ha.n1;omega) (by have:=hb.n1;omega)
 n4:=hN
 d0:=hD
 d1:=hD1
 b0:=hB
 b1:=hB1
 a:=λ r c hr hc=>by
  obtain⟨c1,c2⟩:=ztg hb hc;obtain⟨r1,r2⟩:=ztg hb hr;unfold bfA bf2;split
  ·exact(over.add hD (hsa.o ha hD r1) (hsb.o hb hD r2)).mono zO
  ·split
   ·exact(over.sub hD (over.zero D 0) (hsa.r _ _ r1 c1)).mono zO
   ·split
    ·exact(over.sub hD (over.zero D 0) (hsb.r _ _ r2 c2)).mono zO
    ·exact over.zero _ _
 reg:=bf_reg ha hb
theorem bef_small (ha:znb a) (hb:znb b) (hsa:SmL D B a) (hsb:SmL D B b) (hD:D≠0) (hD1:D<=6720) (hB:D<=10*B) (hB1:10*B<=1814400) (hN:bfN a b<=4) {DS:Nat} (hDS:DS≠0) (hDS2:DS<=2^13) (hst:∀r,r<bfN a b->over DS (2^13) (bfS a b r)):BefP a b:=by
 have hS:=bf_sms ha hb hsa hsb hD hD1 hB hB1 hN;have hr:∀r,r<bfN a b->over D B (bfR a b r):=λ r hr=>hsa.e _ (ztg hb hr).1
 have hB2:B<2^21:=zLL (show B<=1814400 by omega) zD;have hB0:1<=B:=zO;have hD2:D<2^13:=zLL hD1 zD;obtain⟨E,e1,e2,e3⟩:=hS.sol hD hr (bf_eq ha hb);refine⟨hS.sys hD (zRR hD2 (by decide+kernel)) hB0 (zRR hB2 (by decide+kernel)) hr (bf_eq ha hb),?_⟩;refine zgi zO zO zD hDS hDS2 hst (zMZ e1 hD) ?_ ?_ e3
 ·exact zLM (Nat.mul_lt_mul'' e2 hD2) (by decide+kernel)
 ·exact zLM (Nat.mul_lt_mul_of_pos_left hB2 (by decide+kernel)) (by decide+kernel)
end
theorem tf_nums :∀x,x<6->∀y,y<8->fq false (x+1) (y+1)=mkRat (((x+1)*(840/(y+1)):Nat):Int) 840/\(x+1)*(840/(y+1))<=5040/\0<fq false (x+1) (y+1)/\zza (fq false (x+1) (y+1)).num.natAbs<=32/\zza (fq false (x+1) (y+1)).den<=32:=by decide+kernel
theorem tfQ.over {q:Rat} (h:tfQ q):over 840 5040 q:=by
 obtain⟨x,y,hx,hy,rfl⟩:=h;obtain⟨h1,h2,_⟩:=tf_nums x hx y hy;exact⟨_,h1,by rw[Int.natAbs_natCast];exact h2⟩
theorem tfQ.pos {q:Rat} (h:tfQ q):0<q:=by
 obtain⟨x,y,hx,hy,rfl⟩:=h;exact(tf_nums x hx y hy).2.2.1
theorem tfQ.lim {q:Rat} (h:tfQ q):zqf q:=by
 obtain⟨x,y,hx,hy,rfl⟩:=h;obtain⟨_,_,h1,h2,h3⟩:=tf_nums x hx y hy;exact⟨Rat.le_of_lt h1,h2,h3⟩
theorem st_nums :∀k,k<9->0<=fq false k 8/\zza (fq false k 8).num.natAbs<=32/\zza (fq false k 8).den<=32:=by decide+kernel
theorem st_over {k:Nat} (h:k<9):over 8 8 (fq false k 8):=⟨(k:Int),by unfold fq sgn;simp,by simp;omega⟩
theorem fq_add8 (a b:Nat):fq false a 8+fq false b 8=fq false (a+b) 8:=by
 unfold fq sgn;simp only[Bool.false_eq_true,if_false];rw[Rat.mkRat_add_mkRat _ _ zD zD,Rat.mkRat_eq_iff zD zD]
 push_cast
 grind
theorem lsum_st :∀ks:List Nat,zef (ks.map λ k=>fq false k 8)=fq false ks.sum 8
 | []=>by decide+kernel
 | k::ks=>by rw[List.map_cons,zso,lsum_st ks,fq_add8,List.sum_cons,Nat.add_comm]
theorem mem_sum :∀ {ks:List Nat} {k:Nat},k∈ks->k<=ks.sum
 | a::ks,k,h=>by
   rw[List.sum_cons];rcases List.mem_cons.1 h with rfl | h
   ·omega
   ·have:=mem_sum h;omega
section
variable {n left:Nat} {S E:List Rat} {R:List (List Rat)}
theorem LT.st_mem (h:LT n n 0 S E R) {q:Rat} (hq:q∈S):∃k,k<9/\q=fq false k 8:=by
 obtain⟨ks,rfl,e2⟩:=h.st;obtain⟨k,hk,rfl⟩:=List.mem_map.1 hq;exact⟨k,by have:=mem_sum hk;omega,rfl⟩
theorem LT.ex_get (h:LT n n 0 S E R) {j:Nat} (hj:j<n):(tfQ (E.getD j 0)\/(E.getD j 0=0/\j+1<n)):=by
 have hj':j<E.length:=by rw[h.el];exact hj
 rw[zGD,zGE hj'];exact h.ex j hj'
theorem LT.rt_get (h:LT n n 0 S E R) {i j:Nat} (hi:i<n) (hj:j<n):(j=i+1->tfQ ((R.getD i []).getD j 0))/\(j=i->(R.getD i []).getD j 0=0)/\(tfQ ((R.getD i []).getD j 0)\/(R.getD i []).getD j 0=0):=by
 have hi':i<R.length:=by rw[h.rl];exact hi
 have e1:R.getD i []=R[i]:=by rw[zGD,zGE hi'];rfl
 obtain⟨h1,h2⟩:=h.rt i hi';have hj':j<R[i].length:=by rw[h1];exact hj
 have e2:R[i].getD j 0=R[i][j]:=by rw[zGD,zGE hj'];rfl
 rw[e1,e2];exact h2 j hj'
end
section
variable {n:Nat} {l:LQ}
theorem LT.law (h:LT n n 0 l.start l.exit l.rates) (hn:1<=n) (hn4:n<=4):znb l where
 n1:=by rw[h.sl];exact hn
 n4:=by rw[h.sl];exact hn4
 el:=by rw[h.sl,h.el]
 rl:=by rw[h.sl,h.rl]
 st:=λ q hq=>by obtain⟨k,hk,rfl⟩:=h.st_mem hq;exact st_nums k hk
 ex:=λ q hq=>by
  obtain⟨j,hj,rfl⟩:=List.mem_iff_getElem.1 hq;rcases h.ex j hj with h1 | h1
  ·exact h1.lim
  ·rw[h1.1];exact zfd
 row:=λ i hi=>by
  obtain⟨h1,h2⟩:=h.rt i hi;refine⟨by rw[h.sl];exact h1,λ q hq=> ?_,?_⟩
  ·obtain⟨j,hj,rfl⟩:=List.mem_iff_getElem.1 hq;rcases(h2 j hj).2.2 with h3 | h3
   ·exact h3.lim
   ·rw[h3];exact zfd
  ·(have hi2:i<l.rates[i].length:=by rw[h1,<-h.rl];exact hi);rw[zGD,zGE hi2];exact(h2 i hi2).2.1 rfl
 sum:=by
  obtain⟨ks,e1,e2⟩:=h.st;rw[e1,lsum_st,show ks.sum=8 by omega];decide+kernel
 ends:=⟨λ i=>n-1-i,λ i hi=>by
  rw[h.sl]at hi |-
  refine⟨show n-1-i<=n by omega,?_⟩;rcases h.ex_get hi with h1 | ⟨h1,h2⟩
  ·exact Or.inl h1.pos
  ·exact Or.inr ⟨i+1,h2,((h.rt_get hi h2).1 rfl).pos,show n-1- (i+1)<n-1-i by omega⟩⟩
theorem LT.sm (h:LT n n 0 l.start l.exit l.rates):SmL 840 5040 l where
 r:=λ i j hi hj=>by
  rw[h.sl]at hi hj;rcases(h.rt_get hi hj).2.2 with h3 | h3
  ·exact h3.over
  ·unfold rtQ;rw[h3];exact over.zero _ _
 e:=λ i hi=>by
  rw[h.sl]at hi;rcases h.ex_get hi with h1 | ⟨h1,h2⟩
  ·exact h1.over
  ·unfold exQ;rw[h1];exact over.zero _ _
theorem LT.start8 (h:LT n n 0 l.start l.exit l.rates) {i:Nat} (hi:i<l.start.length):over 8 8 (stQ l i):=by
 obtain⟨k,hk,e⟩:=h.st_mem (zcl hi);unfold stQ;rw[e];exact st_over hk
end
section
variable {a b:LQ}
theorem zze.law {m:Nat} (h:zze m a) (hm:m<=4):znb a:=by obtain⟨n,h1,h2,h3⟩:=h;exact h3.law h1 (zLT h2 hm)
theorem zze.len {m:Nat} (h:zze m a):a.start.length<=m:=by obtain⟨n,h1,h2,h3⟩:=h;rw[h3.sl];exact h2
theorem zze.sm {m:Nat} (h:zze m a):SmL 840 5040 a:=by obtain⟨n,h1,h2,h3⟩:=h;exact h3.sm
theorem zze.start8 {m:Nat} (h:zze m a) {i:Nat} (hi:i<a.start.length):over 8 8 (stQ a i):=by obtain⟨n,h1,h2,h3⟩:=h;exact h3.start8 hi
theorem befQ_sg (a b:LQ):befQ a b=sg (bfN a b) λ c=>bfS a b c*befX a b c:=by
 unfold befQ zhp;have e1:fq false 1 1=1:=by decide+kernel
 rw[e1,Rat.mul_one,Rat.zero_add];refine zqa λ t ht=> ?_
 have g:∀f:Nat->Rat,(zxa (bfN a b) f).getD t 0=f t:=λ f=>by rw[zGD,zGE (by rw[zda];exact ht),Option.getD_some,zqb]
 rw[g,g]
end
def rT (n:Nat) (M:Mx) (k:Nat):Mx:=λ i j=>if i<k then(elim false n M k).A i j/(elim false n M k).A i i else(elim false n M k).A i j
def rP (n:Nat) (M:Mx) (k:Nat):Nat:=pvt n k (elim false n M k)
def zT (n:Nat) (M:Mx) (k:Nat):Mx:=swp (rT n M k) k (rP n M k)
def nTo (n:Nat) (M:Mx) (k e:Nat):Mx:=λ i j=>if i=k/\j<e then zT n M k k j/zT n M k k k else zT n M k i j
def nT (n:Nat) (M:Mx) (k:Nat):Mx:=λ i j=>if i=k then zT n M k k j/zT n M k k k else zT n M k i j
def qRow (n:Nat) (M:Mx) (k i e:Nat):Nat->Rat:=λ j=>if j<e then nT n M k i j+ -(nT n M k i k*nT n M k k j)else nT n M k i j
def qT (n:Nat) (M:Mx) (k a:Nat):Mx:=λ i j=>if i<a/\i≠k then nT n M k i j+ -(nT n M k i k*nT n M k k j)else nT n M k i j
theorem rT_zero (n:Nat) (M:Mx):rT n M 0=M:=by
 funext i j;unfold rT;rw[zIN zO];rfl
section
variable {n m k:Nat} {M:Mx}
theorem rP_lt (h:(elim false n M n).r=n) (hk:k<n):k<=rP n M k/\rP n M k<n:=by
 have hrk:=zbg h (k:=k) zO;have hrk1:=zbg h (k:=k+1) hk;have hge:=zmm n k (elim false n M k);rw[hrk]at hge;refine⟨hge,?_⟩;rw[elim,zrg]at hrk1;by_cases h5:pvt n k (elim false n M k)<n
 ·exact h5
 ·rw[zIN h5,hrk]at hrk1;omega
theorem zxp {i j:Nat} (h:k<=i):rT n M k i j=(elim false n M k).A i j:=by unfold rT;rw[zIN zO]
theorem rP_first (h:(elim false n M n).r=n) (hk:k<n):rT n M k (rP n M k) k≠0/\∀i,k<=i->i<rP n M k->rT n M k i k=0:=by
 have hrk:=zbg h (k:=k) zO;obtain⟨h1,h2⟩:=rP_lt h hk;refine⟨?_,λ i h3 h4=> ?_⟩
 ·rw[zxp h1];exact zaq (zcg false n M k).1 h2
 ·rw[zxp h3];have:=zyo (λ i=>decide ((elim false n M k).A i k≠0)) (n- (elim false n M k).r) (elim false n M k).r i (by rw[hrk];exact h3) h4;simpa using this
theorem zT_eq (h:(elim false n M n).r=n) (hk:k<n) (i j:Nat):zT n M k i j=if i<k then(swp (elim false n M k).A k (rP n M k)) i j/(swp (elim false n M k).A k (rP n M k)) i i else(swp (elim false n M k).A k (rP n M k)) i j:=by
 obtain⟨h1,h2⟩:=rP_lt h hk;unfold zT swp;by_cases e1:i=k
 ·rw[zIP e1,zIP e1,zIN zO,zxp h1]
 ·by_cases e2:i=rP n M k
  ·rw[zIN e1,zIP e2,zIN e1,zIP e2,zIN zO,zxp (zLR k)]
  ·rw[zIN e1,zIN e2,zIN e1,zIN e2];unfold rT;split<;>rfl
theorem zT_piv (h:(elim false n M n).r=n) (hk:k<n):zT n M k k k≠0:=by
 unfold zT;rw[zjj];exact(rP_first h hk).1
theorem zT_left (h:(elim false n M n).r=n) (hk:k<n) {j:Nat} (hj:j<k):zT n M k k j=0:=by
 obtain⟨h1,h2⟩:=rP_lt h hk;unfold zT;rw[zjj,zxp h1];exact zoe false n M k _ j (by rw[zbg h zO];exact h1) h2 hj
theorem qT_all (h:(elim false n M n).r=n) (hk:k<n) {i:Nat} (hi:i<n) (j:Nat):qT n M k n i j=rT n M (k+1) i j:=by
 have hrk:=zbg h (k:=k) zO;obtain⟨h1,h2⟩:=rP_lt h hk;have hz:=zT_eq h hk;have hp:=zT_piv h hk;have hl:∀ {j},j<k->zT n M k k j=0:=λ hj=>zT_left h hk hj
 have hE:(elim false n M (k+1)).A=zhj false (swp (elim false n M k).A k (rP n M k)) k k:=by
  rw[elim,zrg,zIP (show pvt n k (elim false n M k)<n from h2)];show zhj false (swp (elim false n M k).A (elim false n M k).r _) (elim false n M k).r k=_
  rw[hrk];rfl
 unfold rT;rw[hE];obtain⟨Z,hZ⟩:∃Z,swp (elim false n M k).A k (rP n M k)=Z:=⟨_,rfl⟩;rw[hZ]at hz |-
 have hkk:∀j,zT n M k k j=Z k j:=λ j=>by rw[hz,zIN (zIR k)]
 rw[hkk]at hp;have hl2:∀ {j},j<k->Z k j=0:=λ hj=>by rw[<-hkk];exact hl hj
 have hdiag:∀i,i<k->zhj false Z k k i i=Z i i:=λ i hi=>by unfold zhj;rw[zIN (λ h=>zO)]
 have hrow:zhj false Z k k k=Z k:=znh (λ h=>h.1 rfl)
 have hred:∀i,i≠k->zhj false Z k k i j=Z i j+ -(Z i k*(Z k j/Z k k)):=λ i hik=>by
  unfold zhj;by_cases ha:act false Z k k i
  ·by_cases hj:k<=j
   ·rw[zIP ⟨ha,hj⟩,Rat.div_def,Rat.div_def];grind
   ·rw[zIN (λ h=>hj h.2),hl2 zO,Rat.div_def];grind
  ·rw[zIN (λ h=>ha h.1)];(have h0:Z i k=0:=Classical.byContradiction λ h=>ha ⟨hik,λ hf=>Bool.false_ne_true hf.1,h⟩);rw[h0];grind
 unfold qT nT;by_cases e1:i=k
 ·subst e1;rw[zIN (λ h=>h.2 rfl),zIP rfl,zIP (zSS i),hkk,hkk,hrow]
 ·rw[zIP ⟨hi,e1⟩,zIN e1,zIN e1,zIP rfl,hkk,hkk,hz i j,hz i k];by_cases e2:i<k
  ·rw[zIP e2,zIP e2,zIP zO,hdiag i e2,hred i e1];simp only[Rat.div_def];grind
  ·rw[zIN e2,zIN e2,zIN zO,hred i e1]
theorem qT_zero :qT n M k 0=nT n M k:=by funext i j;unfold qT;rw[zIN zO]
theorem qT_at {a:Nat} (j:Nat):qT n M k a a j=nT n M k a j:=by unfold qT;rw[zIN zO]
theorem qT_piv {a:Nat} (j:Nat):qT n M k a k j=nT n M k k j:=by unfold qT;rw[zIN (λ h=>h.2 rfl)]
theorem qT_skip {a:Nat} (h:a=k\/nT n M k a k=0):qT n M k (a+1)=qT n M k a:=by
 funext i j;unfold qT
 by_cases e1:i=a
 ·subst e1;rcases h with h | h
  ·rw[zIN (λ h2=>h2.2 h),zIN (λ h2=>h2.2 h)]
  ·by_cases e2:i=k
   ·rw[zIN (λ h2=>h2.2 e2),zIN (λ h2=>h2.2 e2)]
   ·rw[zIP ⟨zSS i,e2⟩,zIN (λ h2=>absurd h2.1 (zIR i)),h];grind
 ·by_cases e2:i<a/\i≠k
  ·rw[zIP ⟨zO,e2.2⟩,zIP e2]
  ·rw[zIN e2,zIN (λ h2=>e2 ⟨zO,h2.2⟩)]
def qTo (n:Nat) (M:Mx) (k a e:Nat):Mx:=λ i j=>if i=a then qRow n M k a e j else qT n M k a i j
theorem qTo_zero {a:Nat}:qTo n M k a 0=qT n M k a:=by
 funext i j;unfold qTo
 by_cases h:i=a
 ·subst h;rw[zIP rfl];unfold qRow;rw[zIN zO,qT_at]
 ·rw[zIN h]
theorem qTo_at {a e:Nat}:qTo n M k a e a e=nT n M k a e:=by unfold qTo;rw[zIP rfl];unfold qRow;rw[zIN (zIR e)]
theorem qTo_piv {a e:Nat} (h:a≠k) (j:Nat):qTo n M k a e k j=nT n M k k j:=by unfold qTo;rw[zIN (λ e=>h e.symm),qT_piv]
theorem qTo_step {a e:Nat}:upd (qTo n M k a e) a e (nT n M k a e+ -(nT n M k a k*nT n M k k e))=qTo n M k a (e+1):=by
 funext i j;unfold upd qTo
 by_cases h1:i=a
 ·subst h1;by_cases h2:j=e
  ·subst h2;rw[zIP ⟨rfl,rfl⟩,zIP rfl];unfold qRow;rw[zIP (zSS j)]
  ·rw[zIN (λ h=>h2 h.2),zIP rfl,zIP rfl];unfold qRow;by_cases h3:j<e
   ·rw[zIP h3,zIP zO]
   ·rw[zIN h3,zIN zO]
 ·rw[zIN (λ h=>h1 h.1),zIN h1,zIN h1]
theorem qTo_all {a:Nat} (h:a≠k) {i j:Nat} (hj:j<m):qTo n M k a m i j=qT n M k (a+1) i j:=by
 unfold qTo;by_cases h1:i=a
 ·subst h1;rw[zIP rfl];unfold qRow qT;rw[zIP hj,zIP ⟨zSS i,h⟩]
 ·rw[zIN h1];unfold qT;by_cases e2:i<a/\i≠k
  ·rw[zIP e2,zIP ⟨zO,e2.2⟩]
  ·rw[zIN e2,zIN (λ h2=>e2 ⟨zO,h2.2⟩)]
theorem nTo_zero :nTo n M k 0=zT n M k:=by funext i j;unfold nTo;rw[zIN zO]
theorem nTo_at {e:Nat}:nTo n M k e k e=zT n M k k e:=by unfold nTo;rw[zIN zO]
theorem nTo_step {e:Nat}:upd (nTo n M k e) k e (zT n M k k e/zT n M k k k)=nTo n M k (e+1):=by
 funext i j;unfold upd nTo
 by_cases h1:i=k
 ·by_cases h2:j=e
  ·subst h2;rw[zIP ⟨h1,rfl⟩,zIP ⟨h1,zSS j⟩]
  ·rw[zIN (λ h=>h2 h.2)];by_cases h3:j<e
   ·rw[zIP ⟨h1,h3⟩,zIP ⟨h1,zO⟩]
   ·rw[zIN (λ h=>h3 h.2),zIN (λ h=>zO)]
 ·rw[zIN (λ h=>h1 h.1),zIN (λ h=>h1 h.1),zIN (λ h=>h1 h.1)]
theorem nTo_all {i j:Nat} (hj:j<m):nTo n M k m i j=nT n M k i j:=by
 unfold nTo nT;by_cases h:i=k
 ·rw[zIP ⟨h,hj⟩,zIP h]
 ·rw[zIN (λ h2=>h h2.1),zIN h]
end
structure zrm (n m:Nat) (M:Mx):Prop where
 el:∀k,k<=n->∀i j,i<n->j<m->fits (rT n M k i j)
 d:∀k,k<=n->fits (elim false n M k).d/\fits (-(elim false n M k).d)
 q:∀k,k<n->∀j,j<m->fits (zT n M k k j/zT n M k k k)
 p:∀k,k<n->∀i j,i<n->j<m->fits (nT n M k i k*nT n M k k j)/\fits (nT n M k i j+ -(nT n M k i k*nT n M k k j))
theorem slimU_el {n m D2 N2:Nat} {M:Mx} (hn:0<n) (hnm:n<=m) (h:(elim false n M n).r=n) (el:∀k,k<=n->(∀i j,i<n->j<m->∃G,G≠0/\G<=D2/\over G N2 ((elim false n M k).A i j)))
 (dd:∀k,k<=n->∃G,G≠0/\G<2^4096/\∃K,K<2^4096/\over G K (elim false n M k).d) (hD2:0<D2) (hN2:0<N2) (hbig:2*(D2*N2*(D2*N2*(D2*N2)))<2^4096):zrm n m M:=by
 obtain⟨P,hP⟩:∃P,D2*N2=P:=⟨_,rfl⟩;rw[hP]at hbig;have hP1:0<P:=by rw[<-hP];exact Nat.mul_pos hD2 hN2
 have hGP:D2<=P:=by rw[<-hP];exact Nat.le_mul_of_pos_right _ hN2
 have hNP:N2<=P:=by rw[<-hP];exact Nat.le_mul_of_pos_left _ hD2
 have p2:P<=P*P:=Nat.le_mul_of_pos_left _ hP1;have p3:P*P<=P*(P*P):=Nat.le_mul_of_pos_left _ hP1
 -- the elements
 have er:∀k,k<=n->∀i j,i<n->j<m->∃G,G≠0/\G<=P/\over G P (rT n M k i j):=λ k hk i j hi hj=>by
  obtain⟨G1,a1,a2,a3⟩:=el k hk i j hi hj;unfold rT;split
  ·next hik=>
   obtain⟨G2,b1,b2,b3⟩:=el k hk i i hi zO;obtain⟨_,u2,_⟩:=zmd h k hk;obtain⟨H,c1,c2,c3⟩:=over.div2 a1 b1 a3 b3 (u2 i hik);refine⟨H,c1,zLT c2 (by rw[<-hP];exact zMR _ a2),c3.mono ?_⟩;rw[<-hP,Nat.mul_comm (D2)];exact zML _ b2
  ·exact⟨G1,a1,zO,a3.mono hNP⟩
 have ez:∀k,k<n->∀i j,i<n->j<m->∃G,G≠0/\G<=P/\over G P (zT n M k i j):=λ k hk i j hi hj=>by
  have hp:=(rP_lt h hk).2;unfold zT swp;split
  ·exact er k zO _ j hp hj
  ·split
   ·exact er k zO _ j hk hj
   ·exact er k zO _ j hi hj
 have eq':∀k,k<n->∀j,j<m->∃G,G≠0/\G<=P/\over G P (zT n M k k j/zT n M k k k):=λ k hk j hj=>by
  obtain⟨h1,h2⟩:=rP_lt h hk;have e1:∀j,zT n M k k j=(elim false n M k).A (rP n M k) j:=λ j=>by unfold zT;rw[zjj,zxp h1]
  rw[e1,e1];obtain⟨G1,a1,a2,a3⟩:=el k zO (rP n M k) j h2 hj;obtain⟨G2,b1,b2,b3⟩:=el k zO (rP n M k) k h2 zO;obtain⟨H,c1,c2,c3⟩:=over.div2 a1 b1 a3 b3 (by have:=zT_piv h hk;rwa[e1]at this);refine⟨H,c1,zLT c2 (by rw[<-hP];exact zMR _ a2),c3.mono ?_⟩;rw[<-hP,Nat.mul_comm (D2)];exact zML _ b2
 have en:∀k,k<n->∀i j,i<n->j<m->∃G,G≠0/\G<=P/\over G P (nT n M k i j):=λ k hk i j hi hj=>by
  unfold nT;split
  ·exact eq' k hk j hj
  ·exact ez k hk i j hi hj
 refine⟨λ k hk i j hi hj=> ?_,λ k hk=> ?_,λ k hk j hj=> ?_,λ k hk i j hi hj=> ?_⟩
 ·obtain⟨G,g1,g2,g3⟩:=er k hk i j hi hj;exact g3.fits g1 zO zO
 ·obtain⟨G,g1,g2,K,g3,g4⟩:=dd k hk;exact⟨g4.fits g1 g3 g2,(over.neg g4).fits g1 g3 g2⟩
 ·obtain⟨G,g1,g2,g3⟩:=eq' k hk j hj;exact g3.fits g1 zO zO
 ·obtain⟨G1,a1,a2,a3⟩:=en k hk i k hi zO;obtain⟨G2,b1,b2,b3⟩:=en k hk k j hk hj;obtain⟨G3,d1,d2,d3⟩:=en k hk i j hi hj;have m1:=over.mul a3 b3;have hm1:G1*G2≠0:=zMZ a1 b1;have hm2:G1*G2<=P*P:=zMM a2 b2;refine⟨m1.fits hm1 zO zO,?_⟩;have m2:=over.sub2 d1 hm1 d3 m1;rw[Rat.sub_eq_add_neg]at m2;have hm4:G3*(G1*G2)<=P*(P*P):=zMM d2 hm2;have hm5:P*(G1*G2)<=P*(P*P):=zML _ hm2;have hm6:P*P*G3<=P*(P*P):=by rw[Nat.mul_comm];exact zMR _ d2
  exact m2.fits (zMZ d1 hm1) zO zO
end Go.Proofs.YtlpdkbmmbdfoiaaGreat
