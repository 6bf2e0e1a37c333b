/- Lemmas. -/
import Derived.Test.YtkpedaflofejnaaGreatMPp4
set_option linter.unusedVariables false
set_option linter.unusedSimpArgs false
namespace Go.Proofs.YtkpedaflofejnaaGreat
open Go.RowKit
theorem TMv.low {bt B:Nat} {w0 w w':World} (h:TMv bt w0 w) (hb:Below B w w') (hB:w0.heap.size<=B):TMv bt w0 w':=by
 refine⟨zLT h.size hb.size,λ g h1 h2=> ?_,λ p x hp hx=> ?_,λ p hp=> ?_,λ B' h1 h2=>(h.bw B' h1 h2).trans (hb.mono (zLT h2 hB))⟩
 ·rw[hb.block g zO];exact h.row g h1 h2
 ·have hl:=cell_lt hp;rw[hb.cell zO];exact h.cell p x hp hx
 ·rw[hb.frozen zO];exact h.frozen p hp
def Fr4 (w:World) (bt:Nat) (wx:World):Prop:=C4 wx w.heap.size (.string { data:=#[] }) (.slice none 0 0) (.slice none 0 0) (.slice none 0 0)/\TMv bt w wx
theorem Fr4.tmv {w wx wy:World} {bt:Nat} (h:Fr4 w bt wx) (hm:TMv bt wx wy):Fr4 w bt wy:=
 ⟨h.1.tmv hm zZ zZ zZ zZ,h.2.trans hm⟩
theorem Fr4.low {w wx wy:World} {bt B:Nat} (h:Fr4 w bt wx) (hb:Below B wx wy) (hB:w.heap.size<B):Fr4 w bt wy:=by
 obtain⟨⟨lt,c0,c1,c2,c3,f0,f1,f2,f3⟩,h2⟩:=h;exact⟨⟨zLM lt hb.size,by rw[hb.cell hB];exact c0,by rw[hb.cell hB];exact c1,by rw[hb.cell hB];exact c2,by rw[hb.cell hB];exact c3,by rw[hb.frozen hB];exact f0,by rw[hb.frozen hB];exact f1,by rw[hb.frozen hB];exact f2,by rw[hb.frozen hB];exact f3⟩,h2.low hb (zLO hB)⟩
theorem Fr4.set {w wx:World} {bt:Nat} (h:Fr4 w bt wx) (p:Addr) (hp:w.heap.size<p.block) (u:Value):Fr4 w bt (wx.setCell p u):=
 ⟨h.1.other zO u,h.2.set (zLO hp) u⟩
theorem Fr4.set3 {w wx:World} {bt b:Nat} (h:Fr4 w bt wx) (hb:w.heap.size<b) (u0 u1 u2:Value):Fr4 w bt (((wx.setCell ⟨b,0,none⟩ u0).setCell ⟨b,1,none⟩ u1).setCell ⟨b,2,none⟩ u2):=
 ((h.set ⟨b,0,none⟩ hb u0).set ⟨b,1,none⟩ hb u1).set ⟨b,2,none⟩ hb u2
theorem LwT.set3 {w:World} {bt:Nat} {l:List Nat} {B b5:Nat} {vs ve vr:Value} {rs:List Value} {S E:List Rat} {R:List (List Rat)} (h:LwT w bt l B b5 vs ve vr rs S E R) {b:Nat} {t:Bool} {a1 a2:Option Addr} {l1 k1 l2 k2:Nat} (hC:C3 w b (.bool t) (.slice a1 l1 k1) (.slice a2 l2 k2)) (hb:B<=b)
 (hs:vs.ownBlock=none\/vs.ownBlock≠some b) (he:ve.ownBlock=none\/ve.ownBlock≠some b) (hv:vr.ownBlock=none\/vr.ownBlock≠some b) (hrs:∀ (j:Nat) (h:j<rs.length),rs[j].ownBlock=none\/rs[j].ownBlock≠some b) (u0 u1 u2:Value):
 LwT (((w.setCell ⟨b,0,none⟩ u0).setCell ⟨b,1,none⟩ u1).setCell ⟨b,2,none⟩ u2) bt l B b5 vs ve vr rs S E R:=by
 have one:∀ (w:World) (k:Nat) (x u:Value),LwT w bt l B b5 vs ve vr rs S E R->w.cell? ⟨b,k,none⟩=some x->(∀z,x≠ .int .u32 z)->(∀z,x≠ .int .u8 z)->LwT (w.setCell ⟨b,k,none⟩ u) bt l B b5 vs ve vr rs S E R:=λ w k x u h hc h32 h8=>by
  obtain⟨⟨a,ht⟩,box,st,ex,ra,rl,rows,se,sz,b1,b2,b3⟩:=h;refine⟨⟨a,ht.set (by show b≠bt;omega) hc h8 u⟩,box.other (by show b≠b5;omega) u,st.over hs hc h32 u,ex.over he hc h32 u,ra.over hv u,rl,λ j h1 h2=>⟨(rows j h1 h2).1.over (hrs j h1) hc h32 u,(rows j h1 h2).2⟩,se,by simpa [World.setCell]using sz,b1,b2,b3⟩
 obtain⟨_,c0,c1,c2,_,_,_⟩:=hC;have h1:=one w 0 _ u0 h c0 zZ zZ;have h2:=one _ 1 _ u1 h1 (by rw[zCO _ _ _ _ (by simp)];exact c1) zZ zZ;exact one _ 2 _ u2 h2 (by rw[zCO _ _ _ _ (by simp),zCO _ _ _ _ (by simp)];exact c2) zZ zZ
theorem LwT.apart {w:World} {bt:Nat} {l:List Nat} {B b5:Nat} {vs ve vr:Value} {rs:List Value} {S E:List Rat} {R:List (List Rat)} (h:LwT w bt l B b5 vs ve vr rs S E R) {b:Nat} (hb:w.heap.size<=b):
 (vs.ownBlock=none\/vs.ownBlock≠some b)/\(ve.ownBlock=none\/ve.ownBlock≠some b)/\(vr.ownBlock=none\/vr.ownBlock≠some b)/\∀ (j:Nat) (h:j<rs.length),rs[j].ownBlock=none\/rs[j].ownBlock≠some b:=by
 have key:∀v:Value,(∀g,v.ownBlock=some g->B<=g/\g<w.heap.size)->v.ownBlock=none\/v.ownBlock≠some b:=λ v hv=>by
  cases ho:v.ownBlock with
  | none=>exact Or.inl rfl
  | some g=>
    (refine Or.inr λ e=> ?_);(injection e with e);have:=(hv g ho).2;omega
 exact⟨key _ h.st.block,key _ h.ex.block,key _ h.ra.block,λ j hj=>key _ (h.rows j hj (by rw[<-h.rl];exact hj)).1.block⟩
structure InL (w0:World) (bt:Nat) (l:List Nat) (B b5:Nat) (vs ve vr:Value) (wA:World) (rv:Value) (row:List Rat) (w:World):Prop where
 fr:zra w 53 wA.heap.size rv row
 mv:zya B wA w
 tp:∃a,zie w bt l B a
 bx:C4 w b5 (.string { data:=#[] }) vs vr ve
 fm:Fr4 w0 bt w
 nums:bt<B/\b5<B/\w0.heap.size<B/\B<=wA.heap.size/\zlb vs/\zlb vr/\zlb ve
section
variable {w0 wA w w':World} {bt B b5:Nat} {l:List Nat} {vs ve vr rv:Value} {row:List Rat}
theorem InL.bw (h:InL w0 bt l B b5 vs ve vr wA rv row w) (hb:Below w.heap.size w w'):InL w0 bt l B b5 vs ve vr wA rv row w':=by
 obtain⟨fr,mv,⟨a,tp⟩,bx,fm,nums⟩:=h;exact⟨fr.moves (zya.bw hb) (zLR _),mv.trans (zya.bw hb),⟨a,tp.bw hb⟩,bx.bS hb,fm.tmv (TMv.of_below hb),nums⟩
theorem InL.tmv (h:InL w0 bt l B b5 vs ve vr wA rv row w) {a':Nat} (hm:TMv bt w w') (hta:zkb w' bt l a'):InL w0 bt l B b5 vs ve vr wA rv row w':=by
 obtain⟨fr,mv,⟨a,tp⟩,bx,fm,n1,n2,n3,n4,n5,n6,n7⟩:=h;have hmv:zya B w w':=hm.moves n1;exact⟨fr.moves hmv n4,mv.trans hmv,⟨a',tp.tmv hm hta⟩,bx.tmv hm zZ n5.noInt n6.noInt n7.noInt,fm.tmv hm,n1,n2,n3,n4,n5,n6,n7⟩
theorem InL.set (h:InL w0 bt l B b5 vs ve vr wA rv row w) {p:Addr} {x:Value} (hp:wA.heap.size<=p.block) (hr:rv.ownBlock=none\/rv.ownBlock≠some p.block) (hc:w.cell? p=some x) (hx:∀z,x≠ .int .u32 z) (hx8:∀z,x≠ .int .u8 z) (u:Value):
 InL w0 bt l B b5 vs ve vr wA rv row (w.setCell p u):=by
 obtain⟨fr,mv,⟨a,tp⟩,bx,fm,n1,n2,n3,n4,n5,n6,n7⟩:=h;exact⟨fr.over hr hc hx u,mv.high hp hc hx u,⟨a,tp.set zO hc hx8 u⟩,bx.other zO u,fm.set p zO u,n1,n2,n3,n4,n5,n6,n7⟩
theorem InL.grow (h:InL w0 bt l B b5 vs ve vr wA rv row w) {rv':Value} {row':List Rat} (hv:zra w' 53 wA.heap.size rv' row') (hg:w.grownBy w' rv.ownBlock) (hn:zdc w rv):InL w0 bt l B b5 vs ve vr wA rv' row' w':=by
 obtain⟨fr,mv,⟨a,tp⟩,bx,fm,n1,n2,n3,n4,n5,n6,n7⟩:=h;have hb:Below wA.heap.size w w':=zob hg mv.size fr.block;have hb2:=hb.mono n4;exact⟨hv,mv.grow hg hn (λ k hk=>(fr.block k hk).1),⟨a,tp.low hb2 n1⟩,bx.bw hb2 n2,fm.low hb2 n3,n1,n2,n3,n4,n5,n6,n7⟩
theorem InL.set3 (h:InL w0 bt l B b5 vs ve vr wA rv row w) {b:Nat} {t0:Bool} {x0 y0:Value} (hC:C3 w b (.bool t0) x0 y0) (sx:zlb x0) (sy:zlb y0) (hb:wA.heap.size<=b) (hr:rv.ownBlock=none\/rv.ownBlock≠some b) (u0 u1 u2:Value):
 InL w0 bt l B b5 vs ve vr wA rv row (((w.setCell ⟨b,0,none⟩ u0).setCell ⟨b,1,none⟩ u1).setCell ⟨b,2,none⟩ u2):=by
 obtain⟨_,c0,c1,c2,_,_,_⟩:=hC;have h1:=h.set (p:=⟨b,0,none⟩) hb hr c0 zZ zZ u0;have h2:=h1.set (p:=⟨b,1,none⟩) hb hr (by rw[zCO _ _ _ _ (by simp)];exact c1) sx.noLimb sx.noByte u1;exact h2.set (p:=⟨b,2,none⟩) hb hr (by rw[zCO _ _ _ _ (by simp),zCO _ _ _ _ (by simp)];exact c2) sy.noLimb sy.noByte u2
theorem InL.start {rs:List Value} {S E:List Rat} {R:List (List Rat)} (c:LwT wA bt l B b5 vs ve vr rs S E R) (hF:Fr4 w0 bt wA) (hw:w0.heap.size<B):InL w0 bt l B b5 vs ve vr wA (.slice none 0 0) [] wA:=
 ⟨zra.nil _ _ _,zya.refl _ _,c.tape,c.box,hF,c.bt5.1,c.bt5.2.1,hw,c.sz,c.st.sl,c.ra.sl,c.ex.sl⟩
theorem InL.lwt {rs:List Value} {S E:List Rat} {R:List (List Rat)} (h:InL w0 bt l B b5 vs ve vr wA rv row w) (c:LwT wA bt l B b5 vs ve vr rs S E R):LwT w bt l B b5 vs ve vr rs S E R/\zra w 53 B rv row/\(rv.ownBlock=none\/rv.ownBlock≠vs.ownBlock)/\(rv.ownBlock=none\/rv.ownBlock≠ve.ownBlock):=by
 have key:∀v:Value,(∀g,v.ownBlock=some g->B<=g/\g<wA.heap.size)->rv.ownBlock=none\/rv.ownBlock≠v.ownBlock:=λ v hv=>by
  cases ho:rv.ownBlock with
  | none=>exact Or.inl rfl
  | some g=>
    refine Or.inr (λ e=> ?_);have h1:=h.fr.block g ho;have h2:=hv g e.symm;omega
 exact⟨c.of h.mv h.tp h.bx,h.fr.mono c.sz,key _ c.st.block,key _ c.ex.block⟩
end
def RwL (i:Nat) (row:List Rat) (j:Nat):Prop:=row.length=j/\∀ (t:Nat) (h:t<row.length),(t=i+1->tfQ row[t])/\(t=i->row[t]=0)/\(tfQ row[t]\/row[t]=0)
theorem RwL.nil (i:Nat):RwL i [] 0:=⟨rfl,λ t h=>absurd h (zNZ t)⟩
theorem RwL.snoc {i j:Nat} {row:List Rat} {q:Rat} (h:RwL i row j) (h1:j=i+1->tfQ q) (h2:j=i->q=0) (h3:tfQ q\/q=0):RwL i (row++ [q]) (j+1):=by
 obtain⟨hl,hr⟩:=h;refine⟨by simp[hl],λ t ht=> ?_⟩;by_cases e:t<row.length
 ·rw[zAL e];exact hr t e
 ·obtain rfl:t=row.length:=by simp at ht;omega
  have e1:(row++ [q])[row.length]'ht=q:=by simp
  rw[e1,hl];exact⟨h1,h2,h3⟩
structure LT (n i left:Nat) (S E:List Rat) (R:List (List Rat)):Prop where
 sl:S.length=i
 el:E.length=i
 rl:R.length=i
 st:∃ks:List Nat,S=ks.map (λ k=>fq false k 8)/\ks.sum+left=8
 ex:∀ (j:Nat) (h:j<E.length),tfQ E[j]\/(E[j]=0/\j+1<n)
 rt:∀ (j:Nat) (h:j<R.length),RwL j R[j] n
 lf:i=n->left=0
theorem LT.zero (n:Nat) (hn:1<=n):LT n 0 8 [] [] []:=⟨rfl,rfl,rfl,⟨[],rfl,rfl⟩,λ j h=>absurd h (zNZ j),λ j h=>absurd h (zNZ j),λ h=>zO⟩
theorem LT.left8 {n i left:Nat} {S E:List Rat} {R:List (List Rat)} (h:LT n i left S E R):left<=8:=by obtain⟨ks,_,h⟩:=h.st;omega
theorem LT.step {n i left k:Nat} {S E:List Rat} {R:List (List Rat)} {q:Rat} {row:List Rat} (h:LT n i left S E R) (hk:k<=left) (hkn:i+1=n->k=left) (hq:tfQ q\/(q=0/\i+1<n)) (hr:RwL i row n):LT n (i+1) (left-k) (S++ [fq false k 8]) (E++ [q]) (R++ [row]):=by
 obtain⟨sl,el,rl,⟨ks,e1,e2⟩,ex,rt,lf⟩:=h;refine⟨by simp[sl],by simp[el],by simp[rl],⟨ks++ [k],by simp[e1],by simp;omega⟩,λ j hj=> ?_,λ j hj=> ?_,λ e=>by have:=hkn e;omega⟩
 ·by_cases e:j<E.length
  ·rw[zAL e];exact ex j e
  ·(obtain rfl:j=E.length:=by simp at hj;omega);(have e3:(E++ [q])[E.length]'hj=q:=by simp);rw[e3,el];exact hq
 ·by_cases e:j<R.length
  ·rw[zAL e];exact rt j e
  ·(obtain rfl:j=R.length:=by simp at hj;omega);(have e3:(R++ [row])[R.length]'hj=row:=by simp);rw[e3,rl];exact hr
def zvj (most:Nat) (q:LQ):Prop:=∃n,1<=n/\n<=most/\LT n n 0 q.start q.exit q.rates
def LawN (w:World) (B:Nat) (v:Value) (l:LQ):Prop:=∃vs ve vr rs,v= .agg #[.string { data:=#[] },vs,vr,ve]/\zra w 53 B vs l.start/\zra w 53 B ve l.exit/\zbc w 23 B 1 vr rs.length rs/\rs.length=l.rates.length/\∀ (j:Nat) (h:j<rs.length) (h':j<l.rates.length),zra w 53 B rs[j] l.rates[j]
section
variable {w w':World} {B:Nat} {v:Value} {l:LQ}
theorem LawN.lawE (h:LawN w B v l):zum w v l:=by
 obtain⟨vs,ve,vr,rs,rfl,h1,h2,h3,h4,h5⟩:=h
 exact⟨vs,vr,ve,rfl,h1.fracs,⟨h3.sl,by rw[h3.len];exact h4,λ j hj=>by
  have hj2:j<rs.length:=by rw[h4];exact hj
  exact⟨rs[j],h3.cell j hj2,(h5 j hj2 hj).fracs⟩⟩,h2.fracs⟩
theorem LawN.moves (h:LawN w B v l) (hm:zya B w w'):LawN w' B v l:=by
 obtain⟨vs,ve,vr,rs,rfl,h1,h2,h3,h4,h5⟩:=h;exact⟨vs,ve,vr,rs,rfl,h1.moves hm (zLR _),h2.moves hm (zLR _),h3.moves hm (zLR _),h4,λ j a b=>(h5 j a b).moves hm (zLR _)⟩
theorem LawN.mono {B':Nat} (h:LawN w B v l) (hB:B'<=B):LawN w B' v l:=by
 obtain⟨vs,ve,vr,rs,rfl,h1,h2,h3,h4,h5⟩:=h;exact⟨vs,ve,vr,rs,rfl,h1.mono hB,h2.mono hB,h3.lower hB,h4,λ j a b=>(h5 j a b).mono hB⟩
end
def RTLaw (w0:World) (bt:Nat) (l:List Nat) (most:Nat) (e:Ending) (w:World):Prop:=
 ∃v q a,e= .returned v/\LawN w w0.heap.size v q/\zvj most q/\zkb w bt l a/\TMv bt w0 w
theorem sz1t (w:World) (o:Obj):(w.alloc o).heap.size=w.heap.size+1:=by simp
theorem LwT.new {w:World} {bt a:Nat} {l:List Nat} (h:zkb w bt l a) (t:TypeId):
 LwT (w.alloc (.cells #[.string { data:=#[] }, .slice none 0 0, .slice none 0 0, .slice none 0 0] t)) bt l (w.heap.size+1) w.heap.size (.slice none 0 0) (.slice none 0 0) (.slice none 0 0) [] [] [] []:=by
 refine⟨⟨a,(h.b.mono (zLS _)).bw (zba w _)⟩,C4.new w t _ _ _ _,zra.nil _ _ _,zra.nil _ _ _,zbc.nil _ _ _ _,rfl,λ j h=>by simp at h,Or.inl rfl,by simp,?_⟩;have:=h.lt;omega
theorem LwT.setLow {w:World} {bt:Nat} {l:List Nat} {B b5:Nat} {vs ve vr:Value} {rs:List Value} {S E:List Rat} {R:List (List Rat)} (h:LwT w bt l B b5 vs ve vr rs S E R) {p:Addr} {x:Value} (hp:p.block<B) (h1:p.block≠bt) (h5:p.block≠b5) (hc:w.cell? p=some x) (hx:∀z,x≠ .int .u32 z) (hx8:∀z,x≠ .int .u8 z) (u:Value):LwT (w.setCell p u) bt l B b5 vs ve vr rs S E R:=by
 obtain⟨a,ht⟩:=h.tape;exact h.of (zya.set hp hc hx u) ⟨a,ht.set h1 hc hx8 u⟩ (h.box.other h5 u)
theorem LwT.set4 {w:World} {bt:Nat} {l:List Nat} {B b5:Nat} {vs ve vr:Value} {rs:List Value} {S E:List Rat} {R:List (List Rat)} (h:LwT w bt l B b5 vs ve vr rs S E R) {b:Nat} {s:ByteArray} (hC:C4 w b (.string s) (.slice none 0 0) (.slice none 0 0) (.slice none 0 0)) (hp:b<B) (h1:b≠bt) (h5:b≠b5) (u0 u1 u2 u3:Value):
 LwT ((((w.setCell ⟨b,0,none⟩ u0).setCell ⟨b,1,none⟩ u1).setCell ⟨b,2,none⟩ u2).setCell ⟨b,3,none⟩ u3) bt l B b5 vs ve vr rs S E R:=by
 obtain⟨_,c0,c1,c2,c3,_,_,_,_⟩:=hC;have k0:=h.setLow (p:=⟨b,0,none⟩) hp h1 h5 c0 zZ zZ u0;have k1:=k0.setLow (p:=⟨b,1,none⟩) hp h1 h5 (by rw[zCO _ _ _ _ (by simp)];exact c1) zZ zZ u1;have k2:=k1.setLow (p:=⟨b,2,none⟩) hp h1 h5 (by rw[zCO _ _ _ _ (by simp),zCO _ _ _ _ (by simp)];exact c2) zZ zZ u2;exact k2.setLow (p:=⟨b,3,none⟩) hp h1 h5 (by rw[zCO _ _ _ _ (by simp),zCO _ _ _ _ (by simp),zCO _ _ _ _ (by simp)];exact c3) zZ zZ u3
theorem LwT.lawN {w:World} {bt:Nat} {l:List Nat} {B b5 B':Nat} {vs ve vr:Value} {rs:List Value} {S E:List Rat} {R:List (List Rat)} (h:LwT w bt l B b5 vs ve vr rs S E R) (hB:B'<=B):LawN w B' (.agg #[.string { data:=#[] },vs,vr,ve]) ⟨S,E,R⟩:=
 ⟨vs,ve,vr,rs,rfl,h.st.mono hB,h.ex.mono hB,h.ra.lower hB,h.rl,λ j a b=>(h.rows j a b).1.mono hB⟩
set_option maxRecDepth 100000 in
set_option maxHeartbeats 6400000 in
theorem tlaw_any (bt a:Nat) (l:List Nat) (most:Nat) (w:World) (hT:zkb w bt l a) (hm1:1<=most) (hm4:most<=4):
 Calls Tryz.prog 73 #[.pointer (some ⟨bt,0,none⟩), .int .i64 (most:Nat)] w (RTLaw w bt l most):=by
 obtain⟨i1,hi1,hz1,hs1,hy1⟩:=info_parts Tryz.infoRow;have hAR:=zzg (P:=Tryz.prog) 28 23 i1 _ 24 Tryz.underlying28 hi1 hz1 hs1 hy1 zD rfl zZ;obtain⟨i3,hi3,hz3,hs3,hy3⟩:=info_parts Tryz.infoF;have hAF:=zui (P:=Tryz.prog) 23 53 i3 Tryz.underlying23 hi3 hz3 hs3 hy3;clear hi1 hz1 hs1 hy1 hi3 hz3 hs3 hy3;have hba:=zba w (.cells #[.string { data:=#[] }, .slice none 0 0, .slice none 0 0, .slice none 0 0] 30);have H0:zI (Fr4 w bt (w.alloc (.cells #[.string { data:=#[] }, .slice none 0 0, .slice none 0 0, .slice none 0 0] 30))):=zH ⟨C4.new w 30 _ _ _ _,TMv.of_below hba⟩;have hT0:=hT.bw hba;have HLT:=zH hT.lt;clear hba hT;go_enter Tryz.func73,Tryz.ntmps73;go_upto_region 2 with(go_at_call 31;(with_reducible refine(zyi bt l _ _ most _ rfl hT0 hm1 zO).mono ?_);rintro e1 w1 ⟨x1,a1,rfl,hx1,hT1,hk1⟩);have HF1:=zH (H0.o.tmv hk1);have hw1n:(1:Int)+(x1:Nat)=((x1+1:Nat):Int):=zO;obtain⟨n,hn⟩:∃n,x1+1=n:=⟨_,rfl⟩;have hn4:n<=most:=zO;have hn1:1<=n:=zO;try rw[hw1n]
 rw[hn];clear hw1n hx1;obtain⟨wz,hwz⟩:∃wz,wz=w1:=⟨_,rfl⟩;subst hwz;have HI:=zH (LwT.new hT1 30);have HF5:=zH (HF1.o.tmv (TMv.of_below (bt:=bt) (zba wz (.cells #[.string { data:=#[] }, .slice none 0 0, .slice none 0 0, .slice none 0 0] 30))));have hw4:w.heap.size<wz.heap.size:=HF1.o.1.lt;have HNN:=zH (zAI hn1 hn4);have hn4':n<=4:=zO;clear hk1 hT0 hT1 HF1 hn H0;go_wp2_with fail;go_loopg [7,8] (n) (λ g u7 u8 wr=>∃ (i left:Nat) (vs ve vr:Value) (rs:List Value) (S E:List Rat) (R:List (List Rat)),i<=n/\g=n-i/\u7= .int .i64 left/\u8= .int .i64 i/\LwT wr bt l (wz.heap.size+1) wz.heap.size vs ve vr rs S E R/\LT n i left S E R/\Fr4 w bt wr);case atStart=>exact⟨0,8,_,_,_,_,_,_,_,zZL _,rfl,rfl,rfl,HI.o,LT.zero n hn1,HF5.o⟩
 case round=>
  obtain⟨i,left,vs,ve,vr,rs,S,E,R,hi,hgk,rfl,rfl,hW,hL,hF⟩:=hrel;have HW:=zH hW;have HL:=zH hL;have HF:=zH hF;have HGK:=zH hgk;have hleft:=hL.left8;clear hW hL hF HI HF5 hgk;by_cases hin:i<n
  ·have i2:(i:Int)<(n:Nat):=zO;obtain⟨aT,hTB⟩:=HW.o.tape;have hTA:=hTB.1;go_upto_if 29 with fail;go_cut [9] (λ u9 wx=>∃k:Nat,u9= .int .i64 k/\k<=left/\(i+1=n->k=left)/\LwT wx bt l (wz.heap.size+1) wz.heap.size vs ve vr rs S E R/\Fr4 w bt wx)
   case first =>
    by_cases hlast:i+1<n
    ·have hd2:decide ((i:Int)+1<(n:Nat))=true:=zDT zO;go_wp2_with (go_at_call 31;(with_reducible refine(zyi bt l _ _ (left+1) _ zO hTA zO zO).mono ?_);rintro e6 w6 ⟨x6,a6,rfl,hx6,hT6,hk6⟩);go_meet;case rel=>exact⟨x6,rfl,zO,λ h=>zO,HW.o.tmv hk6 hT6,HF.o.tmv hk6⟩
    ·have hd2:decide ((i:Int)+1<(n:Nat))=false:=zDF zO;go_wp2_with fail;go_meet;case rel=>exact⟨left,rfl,zLR _,λ _=>rfl,HW.o,HF.o⟩
   case rest=>
    obtain⟨k,rfl,hkl,hkn,hW3,hF3⟩:=hcut;have HW3:=zH hW3;have HF3:=zH hF3;have HK:=zH hkn;(have hst1:S.length<=1000:=by rw[HL.o.sl];omega);clear hkn hW3 hF3 hTA hTB HW HF
    go_upto_region 13 with(first
     |(go_at_call 22;(with_reducible refine(zzm k 8 _ 8 _ rfl rfl zO zD zD).mono ?_);rintro e8 w8 ⟨v8,rfl,hv8,hb8⟩;obtain⟨t9,a91,l91,k91,a92,l92,k92,rfl⟩:=hv8.iF;have hbA:=zba w8 (.cells #[.bool t9, .slice a91 l91 k91, .slice a92 l92 k92] 53);have hv9:=hv8.bw hbA;have HW8:=zH ((HW3.o.bw hb8).bw hbA);have HF8:=zH (HF3.o.tmv (TMv.of_below (zaa hb8 hbA)));have hst8:=HW8.o.st;have hsz8:=HW8.o.sz;have ssl8:=hst8.sl;obtain⟨-,c0,c1,c2,c3,f0,f1,f2,f3⟩:=HW8.o.box;obtain⟨-,g0,g1,g2,-,-,-⟩:=C3.new w8 53 (.bool t9) (.slice a91 l91 k91) (.slice a92 l92 k92))
     |(at_builtin;refine hAF _ rfl _ _ rfl (wz.heap.size+1) _ vs S rfl hst8 _ _ _ (fq false k 8) hv9 (by rw[sz1t];rfl) hst1 hsz8 ?_;intro v3' w9 ho9 hg9 hn9 hq9 sv9;have hG:=HW8.o.startG ho9 hg9 hn9 hq9 (zLS _);have hbx9:=HW8.o.box.bw hG.2 (zSS _);have HG:=zH hG;clear c0 c1 c2 c3 f0 f1 f2 f3;obtain⟨-,c0,c1,c2,c3,f0,f1,f2,f3⟩:=id hbx9;clear hG hbx9;obtain⟨an3,nn3,cn3,rfl,_⟩:=id sv9))
    have HFA:=zH ((HF8.o.low HG.o.2 zO).set ⟨wz.heap.size,1,none⟩ hw4 (.slice an3 nn3 cn3));have HWA:=zH HG.o.1;clear HG ho9 hg9 hn9 hq9 c0 c1 c2 c3 f0 f1 f2 f3 g0 g1 g2 hst8 HW8 HF8 HW3 HF3 hb8 hbA hv9 hv8 ssl8 hsz8;generalize w9.setCell ⟨wz.heap.size,1,none⟩ (.slice an3 nn3 cn3)=W9 at *
    obtain⟨aT,hTB⟩:=HWA.o.tape;have hTA:=hTB.1
    go_upto_region 14 with(first
     |(go_at_call 32;(with_reducible refine(zmh bt _ l _ hTA).mono ?_);rintro e12 w12 ⟨v12,q12,a12,rfl,hv12,hq12,hT12,hm12⟩;obtain⟨t12,x12,y12,rfl,⟨a121,l121,k121,rfl,q121⟩,⟨a122,l122,k122,rfl,q122⟩⟩:=hv12.isF;have hba:=zba w12 (.cells #[.bool t12, .slice a121 l121 k121, .slice a122 l122 k122] 53);have hWc:=HWA.o.tmv hm12 hT12;have HAP:=zH (hWc.apart (zLR w12.heap.size));have HSZ:zI (wz.heap.size+1<=w12.heap.size):=zH hWc.sz;have HWB:=zH (hWc.bw hba);have HFB:=zH ((HFA.o.tmv hm12).tmv (TMv.of_below hba));have HC12:=zH (C3.new w12 53 (.bool t12) (.slice a121 l121 k121) (.slice a122 l122 k122));have HV12:=zH (hv12.bw hba);have HT12:=zH (hT12.bw hba);clear hWc hba hv12 hT12 hm12))
    clear hTA hTB HWA HFA;obtain⟨b12,hb12⟩:∃b,w12.heap.size=b:=⟨_,rfl⟩;(rw[hb12]at HC12 HAP HSZ |-);clear hb12;generalize w12.alloc (.cells #[.bool t12, .slice a121 l121 k121, .slice a122 l122 k122] 53)=W12 at *
    have hTA:=HT12.o;go_cut [58] (λ u58 wx=>∃b,u58= .bool b/\(b=true->i+1<n)/\C3 wx b12 (.bool t12) (.slice a121 l121 k121) (.slice a122 l122 k122)/\zna wx (.agg #[.bool t12, .slice a121 l121 k121, .slice a122 l122 k122]) q12/\LwT wx bt l (wz.heap.size+1) wz.heap.size (.slice an3 nn3 cn3) ve vr rs (S++ [fq false k 8]) E R/\Fr4 w bt wx)
    case first =>
     by_cases hlast:i+1<n
     ·have hd2:decide ((i:Int)+1<(n:Nat))=true:=zDT zO;go_wp2_with (go_at_call 31;(with_reducible refine(zyi bt l _ 3 3 _ rfl hTA zD zD).mono ?_);rintro e6 w6 ⟨x6,a6,rfl,hx6,hT6,hk6⟩);go_meet;case rel=>exact⟨_,rfl,λ _=>hlast,HC12.o.tmv hk6 zZ zZ zZ,HV12.o.tmv hk6,HWB.o.tmv hk6 hT6,HFB.o.tmv hk6⟩
     ·have hd2:decide ((i:Int)+1<(n:Nat))=false:=zDF zO;go_wp2_with fail;go_meet;case rel=>exact⟨_,rfl,λ h=>(by cases h),HC12.o,HV12.o,HWB.o,HFB.o⟩
    case rest=>
     obtain⟨b58,rfl,hb58,hC13,hv13,hW13,hF13⟩:=hcut;have HB58:=zH hb58;have HC13:=zH hC13;have HV13:=zH hv13;have HW13:=zH hW13;have HF13:=zH hF13;clear hb58 hC13 hv13 hW13 hF13 HC12 HV12 HWB HFB HT12 hTA;go_upto_if 58 with fail;go_cut [] (λ wx=>∃ (q:Rat) (t':Bool) (a1:Option Addr) (l1 k1:Nat) (a2:Option Addr) (l2 k2:Nat),C3 wx b12 (.bool t') (.slice a1 l1 k1) (.slice a2 l2 k2)/\zna wx (.agg #[.bool t', .slice a1 l1 k1, .slice a2 l2 k2]) q/\(tfQ q\/(q=0/\i+1<n))/\LwT wx bt l (wz.heap.size+1) wz.heap.size (.slice an3 nn3 cn3) ve vr rs (S++ [fq false k 8]) E R/\Fr4 w bt wx)
     case first =>
      cases b58
      ·go_wp2_with fail;go_meet;case rel=>exact⟨q12,_,_,_,_,_,_,_,HC13.o,HV13.o,Or.inl hq12,HW13.o,HF13.o⟩
      ·have hlast:=HB58.o rfl
       go_wp2_with (first
        |(go_at_call 23;(with_reducible refine(zac _).mono ?_);rintro e14 w14 ⟨v14,rfl,hv14,hb14⟩;obtain⟨t14,a141,l141,k141,a142,l142,k142,rfl⟩:=hv14.iF;have HC14:=zH (HC13.o.bS hb14);have HW14:=zH (HW13.o.bw hb14);have HF14:=zH (HF13.o.tmv (TMv.of_below hb14));have HV14:=zH hv14;obtain⟨-,d0,d1,d2,f0,f1,f2⟩:=HC14.o;clear hv14 hb14))
       go_meet;case rel=>exact⟨0,_,_,_,_,_,_,_,HC14.o.set _ _ _,HV14.o.set3 HC14.o zZ zZ _ _ _,Or.inr ⟨rfl,hlast⟩,HW14.o.set3 HC14.o HSZ.o HAP.o.1 HAP.o.2.1 HAP.o.2.2.1 HAP.o.2.2.2 _ _ _,HF14.o.set3 (by have:=HSZ.o;omega) _ _ _⟩
     case rest=>
      obtain⟨q,t15,a151,l151,k151,a152,l152,k152,hC15,hv15,hq15,hW15,hF15⟩:=hcut;have HQ:=zH hq15;have HW15:=zH hW15;have HF15:=zH hF15;have hex:=hW15.ex;have hszx:=hW15.sz;(have hel1:E.length<=1000:=by rw[HL.o.el];omega);have sve:=hex.sl;obtain⟨-,d0,d1,d2,-,-,-⟩:=id hC15;obtain⟨-,c0,c1,c2,c3,f0,f1,f2,f3⟩:=id hW15.box;obtain⟨we,hwe⟩:∃w3,w3=wc:=⟨_,rfl⟩;subst hwe;clear hq15 hW15 hF15 hC15 HC13 HV13 HW13 HF13 HAP HB58
      go_upto_region 18 with(first
       |(at_builtin;refine hAF _ rfl _ _ rfl (wz.heap.size+1) _ ve E rfl hex _ _ _ q hv15 rfl hel1 hszx ?_;intro v16' w16 ho16 hg16 hn16 hq16 sv16;have hG:=HW15.o.exitG ho16 hg16 hn16 hq16 (zLS _);have hbx16:=HW15.o.box.bw hG.2 (zSS _);have HG:=zH hG;clear c0 c1 c2 c3 f0 f1 f2 f3;obtain⟨-,c0,c1,c2,c3,f0,f1,f2,f3⟩:=id hbx16;clear hG hbx16;obtain⟨an6,nn6,cn6,rfl,_⟩:=id sv16))
      have HFA:=zH ((HF15.o.low HG.o.2 zO).set ⟨wz.heap.size,3,none⟩ hw4 (.slice an6 nn6 cn6));have HWA:=zH HG.o.1;clear HG ho16 hg16 hn16 hq16 c0 c1 c2 c3 f0 f1 f2 f3 d0 d1 d2 hex hszx HW15 HF15 hv15 sve;generalize w16.setCell ⟨wz.heap.size,3,none⟩ (.slice an6 nn6 cn6)=WA at *
      go_wp2_with fail
      go_loopg [13,14] (n) (λ m u13 u14 wi=>∃ (j:Nat) (rv:Value) (row:List Rat),j<=n/\m=n-j/\u13=rv/\u14= .int .i64 j/\
       InL w bt l (wz.heap.size+1) wz.heap.size (.slice an3 nn3 cn3) (.slice an6 nn6 cn6) vr WA rv row wi/\RwL i row j)
      case atStart=>exact⟨0,_,_,zZL _,rfl,rfl,rfl,InL.start HWA.o HFA.o zO,RwL.nil _⟩
      case round=>
       obtain⟨j,rv,row,hj,hgm,rfl,rfl,hIn,hRow⟩:=hrel;have HIn:=zH hIn;have HRow:=zH hRow;have HGM:=zH hgm;(have hrl:row.length<=1000:=by rw[hRow.1];omega);clear hIn hRow hgm;by_cases hjn:j<n
       ·have j2:(j:Int)<(n:Nat):=zO
        go_upto_region 22 with(first
         |(go_at_call 23;(with_reducible refine(zac _).mono ?_);rintro e13 w13 ⟨v13,rfl,hv13,hb13⟩;obtain⟨t13,x13,y13,rfl,⟨a131,l131,k131,rfl,q131⟩,⟨a132,l132,k132,rfl,q132⟩⟩:=hv13.isF))
        have hbB:=zba w13 (.cells #[.bool t13, .slice a131 l131 k131, .slice a132 l132 k132] 53);have HI13:=zH ((HIn.o.bw hb13).bw hbB);have hv13b:=hv13.bw hbB;have hC13:=C3.new w13 53 (.bool t13) (.slice a131 l131 k131) (.slice a132 l132 k132)
        have hrb:u13.ownBlock=none\/u13.ownBlock≠some w13.heap.size:=by
         cases ho:u13.ownBlock with
         | none=>exact Or.inl rfl
         | some g=>exact Or.inr (λ e=>by injection e with e;have h1:=(HIn.o.fr.block g ho).2;have h2:=hb13.size;omega)
        have hAb:WA.heap.size<=w13.heap.size:=zLT HIn.o.mv.size hb13.size;have HV13:=zH (zAI hv13b hC13);clear hv13 hv13b hC13 hb13 hbB HIn;generalize w13.alloc (.cells #[.bool t13, .slice a131 l131 k131, .slice a132 l132 k132] 53)=WB at *
        obtain⟨aT,hTB⟩:=HI13.o.tp;have hTA:=hTB.1
        go_cut [85] (λ u85 wx=>∃b,u85= .bool b/\(j=i+1->b=true)/\(j=i->b=false)/\InL w bt l (wz.heap.size+1) wz.heap.size (.slice an3 nn3 cn3) (.slice an6 nn6 cn6) vr WA u13 row wx/\
         C3 wx w13.heap.size (.bool t13) (.slice a131 l131 k131) (.slice a132 l132 k132)/\zna wx (.agg #[.bool t13, .slice a131 l131 k131, .slice a132 l132 k132]) 0)
        case first =>
         by_cases hA:j=i+1
         ·(have hdA:((j:Int)==(i:Int)+1)=true:=by simp;omega);go_wp2_with fail;go_meet;case rel=>exact⟨_,rfl,λ _=>rfl,λ h=>zO,HI13.o,HV13.o.2,HV13.o.1⟩
         ·(have hdA:((j:Int)==(i:Int)+1)=false:=by simp;omega);by_cases hB:j=i
          ·(have hdB:((j:Int) != (i:Int))=false:=by simp[hB]);clear hB;go_wp2_with fail;go_meet;case rel=>exact⟨_,rfl,λ h=>absurd h hA,λ _=>rfl,HI13.o,HV13.o.2,HV13.o.1⟩
          ·(have hdB:((j:Int) != (i:Int))=true:=by simp;omega);go_wp2_with (go_at_call 31;(with_reducible refine(zyi bt l _ 3 3 _ rfl hTA zD zD).mono ?_);rintro e14 w14 ⟨x14,a14,rfl,hx14,hT14,hk14⟩);go_meet;case rel=>exact⟨_,rfl,λ h=>absurd h hA,λ h=>absurd h hB,HI13.o.tmv hk14 hT14,HV13.o.2.tmv hk14 zZ zZ zZ,HV13.o.1.tmv hk14⟩
        case rest=>
         obtain⟨b85,rfl,hb1,hb2,hI14,hC14,hv14⟩:=hcut;have HI14:=zH hI14;have HV14:=zH (zAI hv14 hC14);have HBB:=zH (zAI hb1 hb2);obtain⟨aU,hTU⟩:=HI14.o.tp;have hTU:=hTU.1;clear hI14 hv14 hC14 hTB HI13 HV13 hb1 hb2 hTA;go_upto_if 85 with fail
         go_cut [] (λ wx=>∃ (q:Rat) (t':Bool) (a1:Option Addr) (l1 k1:Nat) (a2:Option Addr) (l2 k2:Nat),C3 wx w13.heap.size (.bool t') (.slice a1 l1 k1) (.slice a2 l2 k2)/\zna wx (.agg #[.bool t', .slice a1 l1 k1, .slice a2 l2 k2]) q/\(j=i+1->tfQ q)/\(j=i->q=0)/\(tfQ q\/q=0)/\
          InL w bt l (wz.heap.size+1) wz.heap.size (.slice an3 nn3 cn3) (.slice an6 nn6 cn6) vr WA u13 row wx)
         case first =>
          cases b85
          ·go_wp2_with fail;go_meet;case rel=>exact⟨0,_,_,_,_,_,_,_,HV14.o.2,HV14.o.1,λ h=>absurd (HBB.o.1 h) (by simp),λ _=>rfl,Or.inr rfl,HI14.o⟩
          ·go_wp2_with (first
            |(go_at_call 32;(with_reducible refine(zmh bt _ l _ hTU).mono ?_);rintro e15 w15 ⟨v15,q15,a15,rfl,hv15,hq15,hT15,hm15⟩;obtain⟨t17,a171,l171,k171,a172,l172,k172,rfl⟩:=hv15.iF;have HC17:=zH (HV14.o.2.tmv hm15 zZ zZ zZ);have HI17:=zH (HI14.o.tmv hm15 hT15);have HV17:=zH hv15;obtain⟨-,d0,d1,d2,d3,d4,d5⟩:=HC17.o;clear hv15 hm15))
           go_meet;case rel=>exact⟨q15,_,_,_,_,_,_,_,HC17.o.set _ _ _,HV17.o.set3 HC17.o zZ zZ _ _ _,λ _=>hq15,λ h=>absurd (HBB.o.2 h) (by simp),Or.inl hq15,HI17.o.set3 HC17.o ⟨_,_,_,rfl,q131⟩ ⟨_,_,_,rfl,q132⟩ hAb hrb _ _ _⟩
         case rest=>
          obtain⟨q,t18,a181,l181,k181,a182,l182,k182,hC18,hv18,hq1,hq2,hq3,hI18⟩:=hcut;have HI18:=zH hI18;have HQ2:=zH (zAI hq1 (zAI hq2 hq3));have hfr:=hI18.fr;have s11:=hfr.sl;have hbs:=hI18.mv.size;obtain⟨-,d0,d1,d2,-,-,-⟩:=id hC18;clear hq1 hq2 hq3 hC18 hI18
          go_wp2_with (first
           |(at_builtin;refine hAF _ rfl _ _ rfl WA.heap.size _ u13 row rfl hfr _ _ _ q hv18 rfl hrl hbs ?_;intro v4' w20 ho20 hg20 hn20 hq20 sv20;have HI20:=zH (HI18.o.grow ho20 hg20 hn20)))
          go_roundg (n- (j+1));(case measure=>(have:=HGM.o;omega));case rel=>exact⟨j+1,_,_,zO,rfl,rfl,by go_num,HI20.o,HRow.o.snoc HQ2.o.1 HQ2.o.2.1 HQ2.o.2.2⟩
       ·obtain rfl:n=j:=zO;obtain⟨hl1,hl2,hl3,hl4⟩:=HIn.o.lwt HWA.o;obtain⟨a11,l11,k11,rfl,_⟩:=hl2.sl;have HLL:=zH (zAI hl1 (zAI hl2 (zAI hl3 hl4)));have HFW:=zH HIn.o.fm;have hra:=hl1.ra;have hrasl:=hra.sl;have hszw:=hl1.sz;(have hrs1:rs.length<=1000:=by rw[hl1.rl,HL.o.rl];omega);obtain⟨-,c0,c1,c2,c3,f0,f1,f2,f3⟩:=id hl1.box;clear hl1 hl2 hl3 hl4
        go_wp2_with (first
         |(at_builtin;refine hAR _ rfl _ _ rfl (wz.heap.size+1) _ vr rs rfl hra (.slice a11 l11 k11) rfl zZ rfl hrs1 hszw ?_;intro v5' w21 ho21 hg21 hn21 hq21 sv21;have hG:=HLL.o.1.ratesG HLL.o.2.1 HLL.o.2.2.1 HLL.o.2.2.2 ho21 hg21 hn21;have hbx21:=HLL.o.1.box.bw hG.2 (zSS _);have HG:=zH hG;clear c0 c1 c2 c3 f0 f1 f2 f3;obtain⟨-,c0,c1,c2,c3,f0,f1,f2,f3⟩:=id hbx21;clear hG hbx21;obtain⟨an5,nn5,cn5,rfl,_⟩:=id sv21))
        have HF21:=zH ((HFW.o.low HG.o.2 zO).set ⟨wz.heap.size,2,none⟩ hw4 (.slice an5 nn5 cn5));have HSUB:zI (((left:Nat):Int)- (k:Nat)=((left-k:Nat):Int)):=zH zO;have HROW:=zH HRow.o;go_roundg (n- (i+1));(case measure=>(have:=HGK.o;omega));case rel=>exact⟨i+1,left-k,_,_,_,_,_,_,_,zO,rfl,congrArg (Value.int .i64) HSUB.o,by go_num,HG.o.1,HL.o.step hkl HK.o HQ.o HROW.o,HF21.o⟩
  ·obtain rfl:n=i:=zO;have hl:=HL.o;have h0:=hl.lf rfl;subst h0;obtain⟨ar,lr,kr,rfl,_⟩:=id HW.o.ra.sl;obtain⟨as',ls,ks,rfl,_⟩:=id HW.o.st.sl;obtain⟨ae,le,ke,rfl,_⟩:=id HW.o.ex.sl;obtain⟨-,c0,c1,c2,c3,-,-,-,-⟩:=id HW.o.box;obtain⟨-,d0,d1,d2,d3,f0,f1,f2,f3⟩:=id HF.o.1;have HLT2:=zH hl;clear hl;go_wp2_with fail;refine zno rfl rfl Tryz.aggL Tryz.sizeL (HF.o.1.set _ _ _ _) rfl ?_;have hw:=HW.o.set4 HF.o.1 (show w.heap.size<wz.heap.size+1 by omega) (by have:=HLT.o;omega) zO (.string { data:=#[] }) (.slice as' ls ks) (.slice ar lr kr) (.slice ae le ke);obtain⟨a9,ht9⟩:=hw.tape;exact⟨_,⟨S,E,R⟩,a9,rfl,hw.lawN zO,⟨n,HNN.o.1,HNN.o.2,HLT2.o⟩,ht9.1,(((HF.o.2.set (zLR _) _).set (zLR _) _).set (zLR _) _).set (zLR _) _⟩
end Go.Proofs.YtkpedaflofejnaaGreat
