/- Lemmas. -/
import Derived.Test.YtkpedaflofejnaaGreatMLk4
import Derived.Test.YtkpedaflofejnaaGreatMLo20
set_option linter.unusedVariables false
set_option linter.unusedSimpArgs false
namespace Go.Proofs.YtkpedaflofejnaaGreat
open Go.RowKit
def cntRQ (l:LwF) (rep:Nat->Rat) (v:List Nat) (p:Nat):List Mv:=(if 0<v.getD 0 0 then repM l rep v p else [])++if 0<v.getD (p+1) 0 then sevR l v p else []
def zgh (l:LwF) (rep:Nat->Rat) (v:List Nat) (p:Nat):List Mv:=(List.range p).flatMap (cntRQ l rep v)
theorem zvp (l:LwF) (rep:Nat->Rat) (v:List Nat) (p:Nat):zgh l rep v (p+1)=zgh l rep v p++cntRQ l rep v p:=zai _ p
theorem cntRP_all (l:LwF) (rep:Nat->Rat) (v:List Nat):zgh l rep v l.n=cntR l rep v:=rfl
def zvf (l:LwF) (v:List Nat) (p q:Nat):List Mv:=((List.range q).filter λ q=>q≠p).map (sevQ l v p)
theorem sevRP_skip (l:LwF) (v:List Nat) (p:Nat):zvf l v p (p+1)=zvf l v p p:=by
 unfold zvf;rw[List.range_succ,List.filter_append];simp
theorem sevRP_next (l:LwF) (v:List Nat) {p q:Nat} (h:q≠p):zvf l v p (q+1)=zvf l v p q++ [sevQ l v p q]:=by
 unfold zvf;rw[List.range_succ,List.filter_append];simp[h]
theorem sevR_eq (l:LwF) (v:List Nat) (p:Nat):sevR l v p=zvf l v p l.n++ [(zbf (zyb v (p+1)) 0,(v.getD (p+1) 0:Rat)*l.E p)]:=rfl
theorem sevR_sub {l:LwF} {v:List Nat} {p:Nat} {m:Mv} (h:m∈sevR l v p):m∈ziq l v p:=by
 unfold sevR at h;unfold ziq;rcases List.mem_append.1 h with h | h
 ·obtain⟨q,hq,rfl⟩:=List.mem_map.1 h;exact List.mem_append_left _ (List.mem_map.2 ⟨q,(List.mem_filter.1 hq).1,rfl⟩)
 ·exact List.mem_append_right _ h
theorem cntR_sub {l:LwF} {rep:Nat->Rat} {v:List Nat} {m:Mv} (h:m∈cntR l rep v):m∈cntM l rep v:=by
 obtain⟨p,hp,h⟩:=List.mem_flatMap.1 h;refine List.mem_flatMap.2 ⟨p,hp,?_⟩;rcases List.mem_append.1 h with h | h
 ·exact List.mem_append_right _ h
 ·refine List.mem_append_left _ ?_;split at h
  ·rename_i h0;rw[zIP h0];exact sevR_sub h
  ·cases h
theorem cntRP_mem {l:LwF} {rep:Nat->Rat} {v:List Nat} {p:Nat} (hp:p<=l.n) {m:Mv} (h:m∈zgh l rep v p):m∈cntM l rep v:=by
 obtain⟨q,hq,hm⟩:=List.mem_flatMap.1 h;exact cntR_sub (List.mem_flatMap.2 ⟨q,List.mem_range.2 (by have:=List.mem_range.1 hq;omega),hm⟩)
theorem cntRQ_len (l:LwF) (rep:Nat->Rat) (v:List Nat) (p:Nat):(cntRQ l rep v p).length<=l.n+2:=by
 have h1:(sevR l v p).length<=l.n+1:=by
  unfold sevR;rw[zLA,zMP];have h:=List.length_filter_le (λ q=>decide (q≠p)) (List.range l.n);rw[List.length_range]at h;simp;simpa using h
 unfold cntRQ repM;rw[zLA];split<;>split<;>simp <;>omega
theorem cntRP_len (l:LwF) (rep:Nat->Rat) (v:List Nat):∀p,(zgh l rep v p).length<=p*(l.n+2)
 | 0=>Nat.le_of_eq (by simp[zgh])
 | p+1=>by
   rw[zvp,zLA,Nat.succ_mul];exact Nat.add_le_add (cntRP_len l rep v p) (cntRQ_len l rep v p)
theorem zei {v:List Nat} {i j:Nat} (hi:i<v.length) (h0:0<v.getD i 0) (hij:i≠j):v≠zbf (zyb v i) j:=λ e=>by
 have h1:(zbf (zyb v i) j).getD i 0=v.getD i 0-1:=by
  unfold zbf zyb;rw[zGD,zSN zO,List.getElem?_set_self hi];rfl
 rw[<-e]at h1;omega
theorem getD_set_ne {v:List Nat} {i j x:Nat} (h:i≠j):(v.set i x).getD j 0=v.getD j 0:=by
 rw[zGD,zSN h,<-zGD]
theorem zib.movesB {w w':World} {e:TypeId} {B B':Nat} {v:Value} {es:List Value} (h:zib w e B' v es) (hm:zya B w w') (hB:B<=B'):zib w' e B' v es:=by
 obtain⟨h1,h2⟩:=h;refine⟨h1,?_⟩;rcases h2 with h2 | ⟨g,cap,cur,e1,e2,e3,rest⟩
 ·exact Or.inl h2
 ·exact Or.inr ⟨g,cap,cur,e1,e2,(hm.row g (zLT hB e2) (lt_of_block e3)).trans e3,rest⟩
theorem zhh.over3 {w:World} {B hi n:Nat} {vs vl vr:Value} {rs:List Value} {s:Nat->Rat} {f:Mx} (h:zhh w B hi vs vl vr rs n s f) {q:Nat} {v0 v1 v2:Value} (hc:C3 w q v0 v1 v2) (hq:q<B) (h0:∀z,v0≠ .int .u32 z) (h1:∀z,v1≠ .int .u32 z) (h2:∀z,v2≠ .int .u32 z) (u0 u1 u2:Value):
 zhh (((w.setCell ⟨q,0,none⟩ u0).setCell ⟨q,1,none⟩ u1).setCell ⟨q,2,none⟩ u2) B hi vs vl vr rs n s f:=by
 have key:∀ {w:World} (h:zhh w B hi vs vl vr rs n s f) (k:Nat) (x u:Value),w.cell? ⟨q,k,none⟩=some x->(∀z,x≠ .int .u32 z)->zhh (w.setCell ⟨q,k,none⟩ u) B hi vs vl vr rs n s f:=fun{w} h k x u hx hn=>
  ⟨h.law.moves (zya.set (B:=B) hq hx hn u),h.lost.grown (zed w ⟨q,k,none⟩ u) (by
   cases hv:vl.ownBlock with
   | none=>exact Or.inl rfl
   | some g=>exact Or.inr (λ e=>by have:=h.lost.ownBlock g hv;injection e with e;subst e;omega)),by have:=h.hh;simpa [World.setCell]using this,h.hr,h.hs⟩
 exact key (key (key h 0 v0 u0 hc.c0 h0) 1 v1 u1 (hc.set0 u0).c1 h1) 2 v2 u2 ((hc.set0 u0).set1 u1).c2 h2
structure RMisA (w:World) (vlaw vrep:Value) (l:LQ) (rl:List Rat) (k m ms:Nat) (D B:Nat):Prop where
 law:LawD w vlaw l
 lp:LawP l
 rep:zpa w vrep rl
 repl:∀q∈rl,zdh q/\q≠0
 repn:rl.length=max m 1
 k1:1<=k
 k6:k<=6
 m4:m<=4
 km:k+m<=8
 ms:ms<=m
 room:zqk D B
 ov:∀v∈zue l.start.length (k+m) m,∀x∈cntM (lwF l) (λ i=>rl.getD i 0) v,over D B x.2
theorem r2int_ii (n:Nat) (nn:Int) (w:World) (h:nn=(n:Nat)) (hn:n<4294967296):Calls Tryz.prog 23 #[.int .i64 nn] w (RF1 w (fq false n 1)):=by
 subst h;exact r2int_nat n w hn
theorem tabM_congr {L:List (List Nat)} {mv mv':List Nat->List Mv} {s:Nat} {g:Nat->Rat} (h:∀v∈L,∀c,znb L (mv v) c=znb L (mv' v) c) (r c:Nat):zzc L mv s g r c=zzc L mv' s g r c:=by
 unfold zzc;split
 ·split
  ·exact h _ (zGM _) c
  ·rfl
 ·rfl
theorem LawP.diag {l:LQ} (h:LawP l):∀p,p<(lwF l).n->(lwF l).R p p=0:=λ p hp=>by
 have hp2:p<l.rates.length:=by rw[h.rl];exact hp
 have h1:=(h.row p hp2).2.2;show(l.rates.getD p []).getD p 0=0
 have e:l.rates.getD p []=l.rates[p]:=by rw[zGD,zGE hp2];rfl
 rw[e];exact h1
theorem zfc.moves {w w':World} {B B':Nat} {v:Value} {rs:List Value} {L:List (List Nat)} (h:zfc w B v rs L) (hm:zya B' w w') (hB:B'<=B):zfc w' B v rs L:=
 ⟨h.own.moves hm hB,h.rl,λ j h1 h2=>(h.rows j h1 h2).movesB hm hB,zLT h.sz hm.size⟩
theorem zfc.grownK {w w':World} {B B' size n:Nat} {v u:Value} {rs xs:List Value} {L:List (List Nat)} {e:TypeId} (h:zfc w B v rs L) (hu:zbc w e B' size u n xs) (h1:31≠e) (h2:3≠e) (hg:w.grownBy w' u.ownBlock):zfc w' B v rs L:=
 ⟨h.own.grown hg (h.own.kinds hu h1),h.rl,λ j a b=>(h.rows j a b).grown hg ((h.rows j a b).kindR hu h2),zLT h.sz hg.size⟩
def RRep (w0:World) (bt:Nat) (l:List Nat) (m:Nat) (e:Ending) (w:World):Prop:=
 ∃v q a,e= .returned v/\zra w 53 w0.heap.size v q/\q.length=max m 1/\(∀x∈q,tfQ x)/\zkb w bt l a/\TMv bt w0 w
set_option maxRecDepth 100000 in
set_option maxHeartbeats 3200000 in
theorem trepair_any (bt a:Nat) (l:List Nat) (m:Nat) (w:World) (hT:zkb w bt l a) (hm4:m<=4):
 Calls Tryz.prog 33 #[.pointer (some ⟨bt,0,none⟩), .int .i64 (m:Nat)] w (RRep w bt l m):=by
 obtain⟨i3,hi3,hz3,hs3,hy3⟩:=info_parts Tryz.infoF;have hAF:=zui (P:=Tryz.prog) 23 53 i3 Tryz.underlying23 hi3 hz3 hs3 hy3;clear hi3 hz3 hs3 hy3;have HT:=zH hT;have HLT:=zH hT.lt;clear hT;by_cases hm1:(m:Int)<1
 ·have HNM:zI (1=max m 1):=zH zO;go_enter Tryz.func33,Tryz.ntmps33;go_wp2_with fail;go_loopg [5,6] (1) (λ g u5 u6 wr=>∃ (j:Nat) (v:Value) (q:List Rat) (a:Nat),j<=1/\g=1-j/\u6= .int .i64 j/\v=u5/\zra wr 53 w.heap.size v q/\q.length=j/\(∀x∈q,tfQ x)/\zie wr bt l w.heap.size a/\TMv bt w wr);case atStart=>exact⟨0,_,[],_,zZL _,rfl,rfl,rfl,zra.nil _ _ _,rfl,λ x h=>by simp at h,HT.o.b,TMv.refl _ _⟩
  case round=>
   obtain⟨j,v,q,a',hjn,hg,rfl,rfl,hv,hq,htf,ht,hm⟩:=hrel;obtain⟨wx,hwx⟩:∃w6,w6=wr:=⟨_,rfl⟩;subst hwx;have HG:=zH hg;have HV:=zH hv;have HQ:=zH hq;have HTF:=zH htf;have HTT:=zH ht;have HM:=zH hm;have vsl:=hv.sl;clear hg hv hq htf ht hm;by_cases hjl:j<1
   ·have i2:(j:Int)<1:=zO;have hta:=HTT.o.1
    go_wp2_with (first
     |(go_at_call 32;(with_reducible refine(zmh bt a' l _ hta).mono ?_);rintro e3 w3 ⟨v3,q3,a3,rfl,hv3,hq3,ht3,hm3⟩;obtain⟨t3,a31,l31,k31,a32,l32,k32,rfl⟩:=hv3.iF;have hrow:=HV.o.moves (hm3.moves HLT.o) (zLR _);have hsz:w.heap.size<=w3.heap.size:=zLT HM.o.size hm3.size;(have hql:q.length<=1000:=by rw[HQ.o];omega);have HT3:=zH (HTT.o.tmv hm3 ht3);have HM3:=zH (HM.o.trans hm3);have HQ3:=zH hq3;clear hq3 ht3 hm3 hta)
     |(at_builtin;refine hAF _ rfl _ _ rfl w.heap.size _ v q rfl hrow _ _ _ q3 hv3 (by rfl) hql hsz ?_;intro v4 w4 ho4 hg4 hn4 hd4 hs4;have hbl:=zob (B:=w.heap.size) hg4 hsz hrow.block;have HO4:=zH ho4;have HT4:=zH (HT3.o.low hbl HLT.o);have HM4:=zH (HM3.o.low hbl (zLR _));clear ho4 hg4 hn4 hd4 hs4 hrow hsz hql hbl hv3))
    go_roundg (1- (j+1));case measure=>(have:=HG.o;omega)
    case rel=>exact⟨j+1,_,_,_,zO,rfl,by go_num,rfl,HO4.o,by rw[zLA,HQ.o];rfl,λ x hx=>by
     rcases List.mem_append.1 hx with h | h
     ·exact HTF.o x h
     ·(obtain rfl:x=q3:=by simpa using h);exact HQ3.o,HT4.o,HM4.o⟩
   ·have hjN:j=1:=zO;have i3:¬ (j:Int)<1:=zO;go_wp2_with fail;go_ret;exact⟨v,q,a',rfl,HV.o,HQ.o.trans (hjN.trans HNM.o),HTF.o,HTT.o.1,HM.o⟩
 ·have HNM:zI (m=max m 1):=zH zO;go_enter Tryz.func33,Tryz.ntmps33;go_wp2_with fail;go_loopg [5,6] (m) (λ g u5 u6 wr=>∃ (j:Nat) (v:Value) (q:List Rat) (a:Nat),j<=m/\g=m-j/\u6= .int .i64 j/\v=u5/\zra wr 53 w.heap.size v q/\q.length=j/\(∀x∈q,tfQ x)/\zie wr bt l w.heap.size a/\TMv bt w wr);case atStart=>exact⟨0,_,[],_,zZL _,rfl,rfl,rfl,zra.nil _ _ _,rfl,λ x h=>by simp at h,HT.o.b,TMv.refl _ _⟩
  case round=>
   obtain⟨j,v,q,a',hjn,hg,rfl,rfl,hv,hq,htf,ht,hm⟩:=hrel;obtain⟨wx,hwx⟩:∃w6,w6=wr:=⟨_,rfl⟩;subst hwx;have HG:=zH hg;have HV:=zH hv;have HQ:=zH hq;have HTF:=zH htf;have HTT:=zH ht;have HM:=zH hm;have vsl:=hv.sl;clear hg hv hq htf ht hm;by_cases hjl:j<m
   ·have i2:(j:Int)<(m:Nat):=zO;have hta:=HTT.o.1
    go_wp2_with (first
     |(go_at_call 32;(with_reducible refine(zmh bt a' l _ hta).mono ?_);rintro e3 w3 ⟨v3,q3,a3,rfl,hv3,hq3,ht3,hm3⟩;obtain⟨t3,a31,l31,k31,a32,l32,k32,rfl⟩:=hv3.iF;have hrow:=HV.o.moves (hm3.moves HLT.o) (zLR _);have hsz:w.heap.size<=w3.heap.size:=zLT HM.o.size hm3.size;(have hql:q.length<=1000:=by rw[HQ.o];omega);have HT3:=zH (HTT.o.tmv hm3 ht3);have HM3:=zH (HM.o.trans hm3);have HQ3:=zH hq3;clear hq3 ht3 hm3 hta)
     |(at_builtin;refine hAF _ rfl _ _ rfl w.heap.size _ v q rfl hrow _ _ _ q3 hv3 (by rfl) hql hsz ?_;intro v4 w4 ho4 hg4 hn4 hd4 hs4;have hbl:=zob (B:=w.heap.size) hg4 hsz hrow.block;have HO4:=zH ho4;have HT4:=zH (HT3.o.low hbl HLT.o);have HM4:=zH (HM3.o.low hbl (zLR _));clear ho4 hg4 hn4 hd4 hs4 hrow hsz hql hbl hv3))
    go_roundg (m- (j+1));case measure=>(have:=HG.o;omega)
    case rel=>exact⟨j+1,_,_,_,zO,rfl,by go_num,rfl,HO4.o,by rw[zLA,HQ.o];rfl,λ x hx=>by
     rcases List.mem_append.1 hx with h | h
     ·exact HTF.o x h
     ·(obtain rfl:x=q3:=by simpa using h);exact HQ3.o,HT4.o,HM4.o⟩
   ·have hjN:j=m:=zO;have i3:¬ (j:Int)<(m:Nat):=zO;go_wp2_with fail;go_ret;exact⟨v,q,a',rfl,HV.o,HQ.o.trans (hjN.trans HNM.o),HTF.o,HTT.o.1,HM.o⟩
def lawCs (cs:List Value) (j:Nat) (s r e:Value):Prop:=cs[j*4]? =some (.string { data:=#[] })/\cs[j*4+1]? =some s/\cs[j*4+2]? =some r/\cs[j*4+3]? =some e
structure znj (w:World) (B Bl:Nat) (v:Value) (cs:List Value) (ls:List LQ):Prop where
 own:zbc w 30 B 4 v ls.length cs
 at':∀ (j:Nat) (h:j<ls.length),∃s r e,lawCs cs j s r e/\LawN w Bl (.agg #[.string { data:=#[] },s,r,e]) ls[j]
theorem znj.nil (w:World) (B Bl:Nat):znj w B Bl (.slice none 0 0) [] []:=⟨zbc.nil _ _ _ _,λ j h=>by simp at h⟩
theorem znj.moves {w w':World} {B Bl:Nat} {v:Value} {cs:List Value} {ls:List LQ} (h:znj w B Bl v cs ls) (hm:zya Bl w w') (hB:Bl<=B):znj w' B Bl v cs ls:=
 ⟨h.own.moves hm hB,λ j hj=>by obtain⟨s,r,e,h1,h2⟩:=h.at' j hj;exact⟨s,r,e,h1,h2.moves hm⟩⟩
theorem LawN.grownL {w w':World} {B B' size n:Nat} {v u:Value} {l:LQ} {xs:List Value} (h:LawN w B v l) (hu:zbc w 30 B' size u n xs) (hg:w.grownBy w' u.ownBlock):LawN w' B v l:=by
 obtain⟨vs,ve,vr,rs,rfl,h1,h2,h3,h4,h5⟩:=h
 have kF:∀ {x:Value} {p:List Rat},zra w 53 B x p->zra w' 53 B x p:=fun{x p} h'=>by
  obtain⟨ys,y1,y2⟩:=id h';exact h'.grown hg hu.nl (y1.kinds hu zD)
 exact⟨vs,ve,vr,rs,rfl,kF h1,kF h2,h3.grown hg (h3.kinds hu zD),h4,λ j a b=>kF (h5 j a b)⟩
theorem znj.push {w w':World} {B Bl:Nat} {v v' s r e:Value} {cs:List Value} {ls:List LQ} {l:LQ} (h:znj w B Bl v cs ls) (hl:LawN w Bl (.agg #[.string { data:=#[] },s,r,e]) l) (hv:zbc w' 30 B 4 v' (ls.length+1) (cs++ [.string { data:=#[] },s,r,e])) (hg:w.grownBy w' v.ownBlock):znj w' B Bl v' (cs++ [.string { data:=#[] },s,r,e]) (ls++ [l]):=by
 have hcl:cs.length=ls.length*4:=h.own.clen;refine⟨by rw[zLA];exact hv,λ j hj=> ?_⟩;rcases zOG j ls.length with hj2 | hj2
 ·obtain⟨s',r',e',⟨k0,k1,k2,k3⟩,h2⟩:=h.at' j hj2;rw[zAL hj2];exact⟨s',r',e',⟨by rw[List.getElem?_append_left zO];exact k0,by rw[List.getElem?_append_left zO];exact k1,by rw[List.getElem?_append_left zO];exact k2,by rw[List.getElem?_append_left zO];exact k3⟩,h2.grownL h.own hg⟩
 ·obtain rfl:j=ls.length:=by simp at hj;omega
  have e1:(ls++ [l])[ls.length]'hj=l:=by simp
  rw[e1];exact⟨s,r,e,⟨by rw[List.getElem?_append_right zO,hcl,Nat.sub_self];rfl,by rw[List.getElem?_append_right zO,show ls.length*4+1-cs.length=1 by omega];rfl,by rw[List.getElem?_append_right zO,show ls.length*4+2-cs.length=2 by omega];rfl,by rw[List.getElem?_append_right zO,show ls.length*4+3-cs.length=3 by omega];rfl⟩,hl.grownL h.own hg⟩
theorem znj.cells {w:World} {B Bl:Nat} {v:Value} {cs:List Value} {ls:List LQ} (h:znj w B Bl v cs ls) {j:Nat} (hj:j<ls.length):∃s r e,w.cell? (ptr v (j*4))=some (.string { data:=#[] })/\w.cell? (ptr v (j*4+1))=some s/\w.cell? (ptr v (j*4+2))=some r/\w.cell? (ptr v (j*4+3))=some e/\LawN w Bl (.agg #[.string { data:=#[] },s,r,e]) ls[j]:=by
 obtain⟨s,r,e,⟨k0,k1,k2,k3⟩,h2⟩:=h.at' j hj
 have key:∀ (i:Nat) (x:Value),cs[i]? =some x->w.cell? (ptr v i)=some x:=λ i x hx=>by
  have hi:=(List.getElem?_eq_some_iff.1 hx).1;rw[h.own.cell i hi];exact hx.symm▸(zGE hi).symm
 exact⟨s,r,e,key _ _ k0,key _ _ k1,key _ _ k2,key _ _ k3,h2⟩
theorem Tryz.infoLaw :(Tryz.prog.info? 30).map (λ i=>(i.zero,i.size,i.bytes))=some (some (.agg #[.string { data:=#[] }, .slice none 0 0, .slice none 0 0, .slice none 0 0]),4,88):=by kernel_rfl
theorem append1_law {P:Program} (t e:TypeId) (i:TypeInfo) (ht:P.underlying t=some (.slice e)) (hi:P.info? e=some i) (hz:i.zero=some (.agg #[.string { data:=#[] }, .slice none 0 0, .slice none 0 0, .slice none 0 0])) (hsize:i.size=4) (hby:i.bytes=88)
 (w0:World) {ops:Array Oper} {rest:List Oper} {o:Oper} {a:Act} {Q:Exit->Act->World->Prop} (hgd:o.guard=none) (s x:Operand)
 (ho:o.op= .call { callee:= .builtin .append,args:=#[s,x],argTypes:=#[t,t] }) (B:Nat) (e':TypeId)
 (v:Value) (n:Nat) (cs:List Value) (hs:a.eval s=v) (hown:zbc w0 e B 4 v n cs) (c1 c2 c3:Value) (s1:zlb c1) (s2:zlb c2) (s3:zlb c3) (hxe:a.eval x= .slice (some ⟨w0.heap.size,0,none⟩) 1 1) (hn:n<=1000) (hbase:B<=w0.heap.size)
 (h:∀v' w',zbc w' e B 4 v' (n+1) (cs++ [.string { data:=#[] },c1,c2,c3])->w0.grownBy w' v.ownBlock->(v'.ownBlock=v.ownBlock\/v'.ownBlock=some (w0.heap.size+1))->wpList P ops Q rest (a.put o.dst v') w'):
 wpList P ops Q (o::rest) a (w0.alloc (.cells #[.string { data:=#[] },c1,c2,c3] e')):=by
 obtain⟨x1,y1,z1,rfl,_⟩:=s1;obtain⟨x2,y2,z2,rfl,_⟩:=s2;obtain⟨x3,y3,z3,rfl,_⟩:=s3
 exact znd w0 hgd s x t ho B e e' i _ 4 88 ht hi hz hsize hby rfl zD (λ c hc z=>by
  have hc2:c∈ [Value.string { data:=#[] }, .slice none 0 0, .slice none 0 0, .slice none 0 0]:=hc;simp at hc2;rcases hc2 with rfl | rfl<;>simp) v n cs hs hown _ rfl hxe
  (λ u hu=>by simp at hu;rcases hu with rfl | rfl | rfl | rfl<;>rfl) (λ u hu z=>by simp at hu;rcases hu with rfl | rfl | rfl | rfl<;>simp) (by simp[maxLen];omega) zO hbase h
end Go.Proofs.YtkpedaflofejnaaGreat
