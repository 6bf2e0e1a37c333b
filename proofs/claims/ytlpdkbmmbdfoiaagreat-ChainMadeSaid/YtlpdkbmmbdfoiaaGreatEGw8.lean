/- Lemmas. -/
import Derived.Test.YtlpdkbmmbdfoiaaGreatEOri
set_option linter.unusedVariables false
set_option linter.unusedSimpArgs false
namespace Go.Proofs.YtlpdkbmmbdfoiaaGreat
open Go.RowKit
theorem zbb.lit2 {w:World} {t:TypeId} {B:Nat} {x0 y0 z0 x1 y1 z1:Value} {p q:Rat} (hB:w.heap.size=B) (h0:zqa w (.agg #[x0,y0,z0]) p) (h1:zqa w (.agg #[x1,y1,z1]) q):
 zbb (w.alloc (.cells #[x0,y0,z0,x1,y1,z1] t)) (.slice (some ⟨B,0,none⟩) 2 2) [p,q]:=by
 subst hB
 have hb:=zca w (.cells #[x0,y0,z0,x1,y1,z1] t)
 have hh:=heap_alloc_new w (.cells #[x0,y0,z0,x1,y1,z1] t)
 have key:∀ (i:Nat) (v:Value),#[x0,y0,z0,x1,y1,z1][i]? =some v->(w.alloc (.cells #[x0,y0,z0,x1,y1,z1] t)).cell? (ptr (.slice (some ⟨w.heap.size,0,none⟩) 2 2) i)=some v:=fun i v hv=>by
  have hc:=cell_of_row (w.alloc (.cells #[x0,y0,z0,x1,y1,z1] t)) w.heap.size i _ t (0,0) hh
  simp only[ptr,base,Addr.add_lit,Nat.zero_add]
  rw[hc];exact hv
 refine⟨⟨_,2,2,rfl,zLR _,by decide,fun e=>by cases e⟩,rfl,fun j hj=> ?_⟩
 have part:∀ {x y z:Value} {s:Rat},zqa w (.agg #[x,y,z]) s->x= .bool (decide (s<0))/\zjb w y s.num.natAbs/\zjb w z s.den:=fun h=>by
  obtain⟨a,b,ha,h4,h5⟩:=h
  injection ha with ha
  injection ha with ha
  simp only[List.cons.injEq,and_true]at ha
  obtain⟨rfl,rfl,rfl⟩:=ha
  exact⟨rfl,h4,h5⟩
 obtain⟨rfl,a1,a2⟩:=part h0
 obtain⟨rfl,b1,b2⟩:=part h1
 rcases(show j=0\/j=1 by simp at hj;omega)with rfl | rfl
 ·exact⟨_,_,key 0 _ rfl,key 1 _ rfl,key 2 _ rfl,a1.below hb,a2.below hb⟩
 ·exact⟨_,_,key 3 _ rfl,key 4 _ rfl,key 5 _ rfl,b1.below hb,b2.below hb⟩
theorem zhc.lit2 {B:Nat} (w:World) (t:TypeId) (x y:Value) (hB:w.heap.size=B):zhc (w.alloc (.cells #[x,y] t)) (.slice (some ⟨B,0,none⟩) 2 2) [x,y]:=by
 subst hB
 have hh:=heap_alloc_new w (.cells #[x,y] t)
 refine⟨⟨_,2,2,rfl,zLR _,by decide,fun e=>by cases e⟩,rfl,fun j hj=> ?_⟩
 have hc:=cell_of_row (w.alloc (.cells #[x,y] t)) w.heap.size j _ t (0,0) hh
 simp only[ptr,base,Addr.add_lit,Nat.zero_add]
 rw[hc]
 rcases(show j=0\/j=1 by simp at hj;omega)with rfl | rfl<;>rfl
theorem bools_lit2 {B:Nat} (w:World) (t:TypeId) (x y:Bool) (hB:w.heap.size=B):zcm (w.alloc (.cells #[.bool x, .bool y] t)) (.slice (some ⟨B,0,none⟩) 2 2) [x,y]:=zhc.lit2 w t _ _ hB
theorem zbb.setC3g {w:World} {v:Value} {q:List Rat} {b:Nat} {v0 v1 v2:Value} (h:zbb w v q) (hc:C3 w b v0 v1 v2) (h0:∀z,v0≠ .int .u32 z) (h1:∀z,v1≠ .int .u32 z) (h2:∀z,v2≠ .int .u32 z) (hne:(base v).block≠b) (u0 u1 u2:Value):
 zbb (((w.setCell ⟨b,0,none⟩ u0).setCell ⟨b,1,none⟩ u1).setCell ⟨b,2,none⟩ u2) v q:=
 ((h.setc (p:=⟨b,0,none⟩) hne hc.c0 h0 u0).setc (p:=⟨b,1,none⟩) hne (hc.set0 u0).c1 h1 u1).setc (p:=⟨b,2,none⟩) hne ((hc.set0 u0).set1 u1).c2 h2 u2
theorem set3_ne {X:World} {b:Nat} {p:Addr} {v:Value} (hp:p.block≠b) (h:X.cell? p=some v) (x y z:Value):(((X.setCell ⟨b,0,none⟩ x).setCell ⟨b,1,none⟩ y).setCell ⟨b,2,none⟩ z).cell? p=some v:=by
 have hne:∀o,(⟨b,o,none⟩:Addr)≠p:=fun o e=>hp (by rw[<-e])
 rw[World.cell?_setCell_other _ _ _ _ (hne _),World.cell?_setCell_other _ _ _ _ (hne _),World.cell?_setCell_other _ _ _ _ (hne _)]
 exact h
theorem zcm.setC3 {w:World} {v:Value} {l:List Bool} {b:Nat} (h:zcm w v l) (hne:(base v).block≠b) (x y z:Value):zcm (((w.setCell ⟨b,0,none⟩ x).setCell ⟨b,1,none⟩ y).setCell ⟨b,2,none⟩ z) v l:=
 ⟨zhc.sl h,zhc.len h,fun i hi=>set3_ne (by rw[zsa];exact hne) (zhc.cell h i hi) x y z⟩
def Mat2 (w:World) (b:Nat) (v:Value) (q:Rat):Prop:=
 ∃r0 r1,zgc v/\slen v=2/\(base v).block≠b/\w.cell? (ptr v 0)=some r0/\w.cell? (ptr v 1)=some r1/\zbb w r0 [0,q]/\(base r0).block≠b/\zbb w r1 [0,0]/\(base r1).block≠b
theorem Mat2.sl {w:World} {b:Nat} {v:Value} {q:Rat} (h:Mat2 w b v q):zgc v:=by
 obtain⟨_,_,h1,_⟩:=h
 exact h1
theorem Mat2.below {w w':World} {b:Nat} {v:Value} {q:Rat} (h:Mat2 w b v q) (hb:Below w.heap.size w w'):Mat2 w' b v q:=by
 obtain⟨r0,r1,h1,h2,h3,h4,h5,h6,h7,h8,h9⟩:=h
 exact⟨r0,r1,h1,h2,h3,zba hb h4,zba hb h5,h6.below hb,h7,h8.below hb,h9⟩
theorem Mat2.set {w:World} {b:Nat} {v:Value} {q:Rat} {v0 v1 v2:Value} (h:Mat2 w b v q) (hc:C3 w b v0 v1 v2) (h0:∀z,v0≠ .int .u32 z) (h1:∀z,v1≠ .int .u32 z) (h2:∀z,v2≠ .int .u32 z) (x y z:Value):MatC (((w.setCell ⟨b,0,none⟩ x).setCell ⟨b,1,none⟩ y).setCell ⟨b,2,none⟩ z) v [[0,q],[0,0]]:=by
 obtain⟨r0,r1,e1,e2,e3,e4,e5,e6,e7,e8,e9⟩:=h
 refine⟨e1,e2,fun j hj=> ?_⟩
 rcases(show j=0\/j=1 by simp at hj;omega)with rfl | rfl
 ·exact⟨r0,set3_ne (by rw[zsa];exact e3) e4 x y z,e6.setC3g hc h0 h1 h2 e7 _ _ _⟩
 ·exact⟨r1,set3_ne (by rw[zsa];exact e3) e5 x y z,e8.setC3g hc h0 h1 h2 e9 _ _ _⟩
theorem Mat2.lit {w:World} {t:TypeId} {B b:Nat} {x y:Value} {q:Rat} (hB:w.heap.size=B) (hbB:b<B) (h0:zbb w x [0,q]) (h1:zbb w y [0,0]) (hx:(base x).block≠b) (hy:(base y).block≠b):Mat2 (w.alloc (.cells #[x,y] t)) b (.slice (some ⟨B,0,none⟩) 2 2) q:=by
 have hb:=zca w (.cells #[x,y] t)
 have hc:=zhc.lit2 w t x y hB
 exact⟨x,y,hc.sl,rfl,by show B≠b;omega,hc.cell 0 (by simp),hc.cell 1 (by simp),h0.below hb,hx,h1.below hb,hy⟩
theorem Shut.done {md:Region.Mode} {ops:Array Oper} {l:Array Bool} (h:Shut md ops l) (j:Nat) (o:Oper) (ho:ops[j]? =some o) (hd:zxp l j):∀e∈o.after,Region.binds md e=true->zxp l e.on:=h j o ho hd
structure TwoI (l:Array Bool) (b1 b2 b3:Nat) (x0 x1 x2 z0 z1 z2:Value) (q:Rat) (u5 u6 u7 u8 u9 u10 u11 u12 u13 u14 u15 u16:Value) (X:World):Prop where
 n12:¬zxp l 12
 c1:C3 X b1 x0 x1 x2
 c3:C3 X b3 z0 z1 z2
 c2:C3 X b2 (.slice none 0 0) (.slice none 0 0) (.slice none 0 0)
 fz:zqa X (.agg #[z0,z1,z2]) 0
 fx:zqa X (.agg #[x0,x1,x2]) q
 p0:zxp l 0->u5= .agg #[z0,z1,z2]
 p1:zxp l 1->u6= .agg #[x0,x1,x2]
 p2:zxp l 2->zbb X u7 [0,q]/\(base u7).block≠b2
 p3:zxp l 3->u8= .agg #[z0,z1,z2]
 p4:zxp l 4->u9= .agg #[z0,z1,z2]
 p5:zxp l 5->zbb X u10 [0,0]/\(base u10).block≠b2
 p6:zxp l 6->Mat2 X b2 u11 q
 p7:zxp l 7->zqa X u12 1
 p8:zxp l 8->u13= .agg #[z0,z1,z2]
 p9:zxp l 9->zbb X u14 [1,0]/\(base u14).block≠b2
 p10:zxp l 10->zcm X u15 [false,true]/\(base u15).block≠b2
 p11:zxp l 11->∃r s t,u16= .agg #[r,s,t]/\Mat2 X b2 r q/\zbb X s [1,0]/\(base s).block≠b2/\zcm X t [false,true]/\(base t).block≠b2
theorem TwoI.below {l:Array Bool} {b1 b2 b3:Nat} {x0 x1 x2 z0 z1 z2:Value} {q:Rat} {u5 u6 u7 u8 u9 u10 u11 u12 u13 u14 u15 u16:Value} {X Y:World} (g:TwoI l b1 b2 b3 x0 x1 x2 z0 z1 z2 q u5 u6 u7 u8 u9 u10 u11 u12 u13 u14 u15 u16 X) (hb:Below X.heap.size X Y):TwoI l b1 b2 b3 x0 x1 x2 z0 z1 z2 q u5 u6 u7 u8 u9 u10 u11 u12 u13 u14 u15 u16 Y:=
 ⟨g.n12,g.c1.belowS hb,g.c3.belowS hb,g.c2.belowS hb,g.fz.below hb,g.fx.below hb,g.p0,g.p1,fun h=>⟨(g.p2 h).1.below hb,(g.p2 h).2⟩,g.p3,g.p4,fun h=>⟨(g.p5 h).1.below hb,(g.p5 h).2⟩,fun h=>(g.p6 h).below hb,fun h=>(g.p7 h).below hb,g.p8,fun h=>⟨(g.p9 h).1.below hb,(g.p9 h).2⟩,fun h=>⟨(g.p10 h).1.below hb,(g.p10 h).2⟩,fun h=>by
  obtain⟨r,s,t,e1,e2,e3,e4,e5,e6⟩:=g.p11 h
  exact⟨r,s,t,e1,e2.below hb,e3.below hb,e4,e5.below hb,e6⟩⟩
def cTwo (q:Rat):CQ:=⟨[[0,q],[0,0]],[1,0],[false,true]⟩
set_option maxRecDepth 100000 in
set_option maxHeartbeats 6400000 in
theorem two_any (va:Value) (q:Rat) (w:World) (ha:zqa w va q):Calls Tryz.prog 113 #[va] w (fun e w'=>∃v,e= .returned v/\zlq w' v (cTwo q)/\Below w.heap.size w w'):=by
 obtain⟨t1,x1,y1,rfl,⟨a11,l11,k11,rfl,_⟩,⟨a12,l12,k12,rfl,_⟩⟩:=ha.isF
 have hbx:=zca w (.cells #[.bool t1, .slice a11 l11 k11, .slice a12 l12 k12] 38)
 have hb2:=zca (w.alloc (.cells #[.bool t1, .slice a11 l11 k11, .slice a12 l12 k12] 38)) (.cells #[.slice none 0 0, .slice none 0 0, .slice none 0 0] 28)
 have HC:=zH ((C3.new w 38 (.bool t1) (.slice a11 l11 k11) (.slice a12 l12 k12)).belowS hb2)
 have HR:=zH (C3.newB (b:=w.heap.size+1) (w.alloc (.cells #[.bool t1, .slice a11 l11 k11, .slice a12 l12 k12] 38)) 28 (.slice none 0 0) (.slice none 0 0) (.slice none 0 0) (by simp))
 have HBW:=zH (zaa hbx hb2)
 have HA:=zH (ha.below HBW.out)
 clear hbx hb2 ha
 go_enter Tryz.func113,Tryz.ntmps113
 go_upto_region 2 with(first
  |(go_at_call 20;(with_reducible refine(zwi _).mono ?_);rintro e3 w3 ⟨v3,rfl,hv3,hb3⟩
    obtain⟨t3,x3,y3,rfl,⟨a31,l31,k31,rfl,_⟩,⟨a32,l32,k32,rfl,_⟩⟩:=hv3.isF
    have hba:=zca w3 (.cells #[.bool t3, .slice a31 l31 k31, .slice a32 l32 k32] 38)
    have hbb:=zaa hb3 hba
    have HV3:=zH (hv3.below hba)
    have HC3:=zH (HC.out.belowS hbb)
    have HR3:=zH (HR.out.belowS hbb)
    have HA3:=zH (HA.out.below hbb)
    have HB3:=zH (zaa HBW.out hbb)
    have HZ3:=zH (C3.new w3 38 (.bool t3) (.slice a31 l31 k31) (.slice a32 l32 k32))
    have HZL:Hid (w.heap.size+1<w3.heap.size):=zH (zLM HR.out.lt hb3.size)
    clear hv3 hb3 hba hbb HC HR HA HBW))
 obtain⟨b3,hb3⟩:∃b,w3.heap.size=b:=⟨_,rfl⟩
 rw[hb3]at HZ3 |-
 have HB32:Hid (w.heap.size+1<b3):=zH (by rw[<-hb3];exact HZL.out)
 clear hb3
 generalize w3.alloc (.cells #[.bool t3, .slice a31 l31 k31, .slice a32 l32 k32] 38)=W at *
 obtain⟨_,c0,c1,c2,_,_,_⟩:=HC3.out
 obtain⟨_,d0,d1,d2,_,_,_⟩:=HZ3.out
 obtain⟨hlt,r0,r1,r2,q0,q1,q2⟩:=HR3.out
 have hb3lt:=HZ3.out.lt
 obtain⟨b2,hb2⟩:∃b,w.heap.size+1=b:=⟨_,rfl⟩
 have HB2:Hid (w.heap.size<=b2):=zH (by omega)
 have HNE1:Hid (w.heap.size≠b2):=zH (by omega)
 have HNE3:Hid (b3≠b2):=zH (by have:=HB32.out;omega)
 rw[hb2]at r0 r1 r2 q0 q1 q2 HR3 hlt |-
 have HLE:Hid (b2<=W.heap.size):=zH (by omega)
 have hbw:Below b2 W W:=Below.refl _ _
 refine wpI.start (fun l a w'=>∃u4 u5 u6 u7 u8 u9 u10 u11 u12 u13 u14 u15 u16:Value,a=⟨#[.agg #[.bool t1, .slice a11 l11 k11, .slice a12 l12 k12], .pointer (some ⟨w.heap.size,0,none⟩), .pointer (some ⟨b2,0,none⟩), .pointer (some ⟨b3,0,none⟩),u4,u5,u6,u7,u8,u9,u10,u11,u12,u13,u14,u15,u16],[]⟩/\Below b2 W w'/\l.size=13/\
  ((zxp l 12/\∃v0 v1 v2,C3 w' b2 v0 v1 v2/\zlq w' (.agg #[v0,v1,v2]) (cTwo q))\/TwoI l w.heap.size b2 b3 (.bool t1) (.slice a11 l11 k11) (.slice a12 l12 k12) (.bool t3) (.slice a31 l31 k31) (.slice a32 l32 k32) q u5 u6 u7 u8 u9 u10 u11 u12 u13 u14 u15 u16 w')) (by kernel_rfl) (by kernel_rfl) ?_ ?_ ?_
 ·have hno:∀j,¬zxp (Array.replicate 13 false) j:=fun j h=>by
   unfold zxp at h
   rw[Array.getD_eq_getD_getElem?,Array.getElem?_replicate]at h
   split at h<;>simp at h
  have hd:=zja (B:=W.heap.size) W
  refine⟨_,_,_,_,_,_,_,_,_,_,_,_,_,rfl,hd.mono (Nat.le_of_lt hlt),by simp,Or.inr ⟨hno 12,HC3.out.belowS hd,HZ3.out.belowS hd,HR3.out.belowS hd,HV3.out.below hd,HA3.out.below hd,?_,?_,?_,?_,?_,?_,?_,?_,?_,?_,?_,?_⟩⟩
  all_goals exact fun h=>absurd h (hno _)
 ·rintro l a w' i o ⟨u4,u5,u6,u7,u8,u9,u10,u11,u12,u13,u14,u15,u16,rfl,hB,hlz,hg⟩ hsh hnd ho hall K hK
  have hi:i<13:=(Array.getElem?_eq_some_iff.1 ho).1
  rcases hg with⟨h12,_⟩ | g
  ·exfalso
   have hall12:=hsh.done 12 _ (by rfl) h12
   simp[Region.binds]at hall12
   rcases(show i=0\/i=1\/i=2\/i=3\/i=4\/i=5\/i=6\/i=7\/i=8\/i=9\/i=10\/i=11\/i=12 by omega)with rfl | rfl | rfl | rfl | rfl | rfl | rfl | rfl | rfl | rfl | rfl | rfl | rfl
   all_goals first
    | exact hnd h12
    |(simp[hall12]at hnd;done)
    | trace_state
  ·have hsz:=g.c2.lt
   obtain⟨_,c0,c1,c2,_,_,_⟩:=g.c1
   obtain⟨_,d0,d1,d2,_,_,_⟩:=g.c3
   obtain⟨_,r0,r1,r2,q0,q1,q2⟩:=g.c2
   clear hsh
   rcases(show i=0\/i=1\/i=2\/i=3\/i=4\/i=5\/i=6\/i=7\/i=8\/i=9\/i=10\/i=11\/i=12 by omega)with rfl | rfl | rfl | rfl | rfl | rfl | rfl | rfl | rfl | rfl | rfl | rfl | rfl
   all_goals
    simp only[List.getElem?_toArray,List.getElem?_cons_succ,List.getElem?_cons_zero,Option.some.injEq]at ho
    subst ho
    simp[Region.binds]at hall
   ·rw[if_pos (by rfl)]
    go_simp
    refine hK.out _ _ ?_
    try simp only[Act.put,List.setIfInBounds_toArray,List.set_cons_zero,List.set_cons_succ]
    refine⟨u4,_,_,_,_,_,_,_,_,_,_,_,_,rfl,hB,by simpa using hlz,Or.inr ?_⟩
    have gg:=g
    refine⟨fun hd=>gg.n12 ((zxp.set hd).resolve_left (by decide)),gg.c1,gg.c3,gg.c2,gg.fz,gg.fx,?_,?_,?_,?_,?_,?_,?_,?_,?_,?_,?_,?_⟩
    all_goals first
     | exact fun hd=>gg.p0 ((zxp.set hd).resolve_left (by decide))
     | exact fun hd=>gg.p1 ((zxp.set hd).resolve_left (by decide))
     | exact fun hd=>gg.p2 ((zxp.set hd).resolve_left (by decide))
     | exact fun hd=>gg.p3 ((zxp.set hd).resolve_left (by decide))
     | exact fun hd=>gg.p4 ((zxp.set hd).resolve_left (by decide))
     | exact fun hd=>gg.p5 ((zxp.set hd).resolve_left (by decide))
     | exact fun hd=>gg.p6 ((zxp.set hd).resolve_left (by decide))
     | exact fun hd=>gg.p7 ((zxp.set hd).resolve_left (by decide))
     | exact fun hd=>gg.p8 ((zxp.set hd).resolve_left (by decide))
     | exact fun hd=>gg.p9 ((zxp.set hd).resolve_left (by decide))
     | exact fun hd=>gg.p10 ((zxp.set hd).resolve_left (by decide))
     | exact fun hd=>gg.p11 ((zxp.set hd).resolve_left (by decide))
     | exact fun _=>rfl
   ·rw[if_pos (by rfl)]
    go_simp
    refine hK.out _ _ ?_
    try simp only[Act.put,List.setIfInBounds_toArray,List.set_cons_zero,List.set_cons_succ]
    refine⟨u4,_,_,_,_,_,_,_,_,_,_,_,_,rfl,hB,by simpa using hlz,Or.inr ?_⟩
    have gg:=g
    refine⟨fun hd=>gg.n12 ((zxp.set hd).resolve_left (by decide)),gg.c1,gg.c3,gg.c2,gg.fz,gg.fx,?_,?_,?_,?_,?_,?_,?_,?_,?_,?_,?_,?_⟩
    all_goals first
     | exact fun hd=>gg.p0 ((zxp.set hd).resolve_left (by decide))
     | exact fun hd=>gg.p1 ((zxp.set hd).resolve_left (by decide))
     | exact fun hd=>gg.p2 ((zxp.set hd).resolve_left (by decide))
     | exact fun hd=>gg.p3 ((zxp.set hd).resolve_left (by decide))
     | exact fun hd=>gg.p4 ((zxp.set hd).resolve_left (by decide))
     | exact fun hd=>gg.p5 ((zxp.set hd).resolve_left (by decide))
     | exact fun hd=>gg.p6 ((zxp.set hd).resolve_left (by decide))
     | exact fun hd=>gg.p7 ((zxp.set hd).resolve_left (by decide))
     | exact fun hd=>gg.p8 ((zxp.set hd).resolve_left (by decide))
     | exact fun hd=>gg.p9 ((zxp.set hd).resolve_left (by decide))
     | exact fun hd=>gg.p10 ((zxp.set hd).resolve_left (by decide))
     | exact fun hd=>gg.p11 ((zxp.set hd).resolve_left (by decide))
     | exact fun _=>rfl
   ·obtain rfl:=g.p0 hall.1
    obtain rfl:=g.p1 hall.2
    rw[if_pos (by rfl)]
    go_simp
    refine hK.out _ _ ?_
    try simp only[Act.put,List.setIfInBounds_toArray,List.set_cons_zero,List.set_cons_succ]
    refine⟨u4,_,_,_,_,_,_,_,_,_,_,_,_,rfl,zfa hB (zca _ _) (Nat.le_of_lt hsz),by simpa using hlz,Or.inr ?_⟩
    have gg:=fun o=>g.below (zca w' o)
    refine⟨fun hd=>g.n12 ((zxp.set hd).resolve_left (by decide)),(gg _).c1,(gg _).c3,(gg _).c2,(gg _).fz,(gg _).fx,?_,?_,?_,?_,?_,?_,?_,?_,?_,?_,?_,?_⟩
    all_goals first
     | exact fun hd=>g.p0 ((zxp.set hd).resolve_left (by decide))
     | exact fun hd=>g.p1 ((zxp.set hd).resolve_left (by decide))
     | exact fun hd=>(gg _).p2 ((zxp.set hd).resolve_left (by decide))
     | exact fun hd=>g.p3 ((zxp.set hd).resolve_left (by decide))
     | exact fun hd=>g.p4 ((zxp.set hd).resolve_left (by decide))
     | exact fun hd=>(gg _).p5 ((zxp.set hd).resolve_left (by decide))
     | exact fun hd=>(gg _).p6 ((zxp.set hd).resolve_left (by decide))
     | exact fun hd=>(gg _).p7 ((zxp.set hd).resolve_left (by decide))
     | exact fun hd=>g.p8 ((zxp.set hd).resolve_left (by decide))
     | exact fun hd=>(gg _).p9 ((zxp.set hd).resolve_left (by decide))
     | exact fun hd=>(gg _).p10 ((zxp.set hd).resolve_left (by decide))
     | exact fun hd=>(gg _).p11 ((zxp.set hd).resolve_left (by decide))
     | exact fun _=>⟨zbb.lit2 rfl g.fz g.fx,(show w'.heap.size≠b2 by omega)⟩
   ·rw[if_pos (by rfl)]
    go_simp
    refine hK.out _ _ ?_
    try simp only[Act.put,List.setIfInBounds_toArray,List.set_cons_zero,List.set_cons_succ]
    refine⟨u4,_,_,_,_,_,_,_,_,_,_,_,_,rfl,hB,by simpa using hlz,Or.inr ?_⟩
    have gg:=g
    refine⟨fun hd=>gg.n12 ((zxp.set hd).resolve_left (by decide)),gg.c1,gg.c3,gg.c2,gg.fz,gg.fx,?_,?_,?_,?_,?_,?_,?_,?_,?_,?_,?_,?_⟩
    all_goals first
     | exact fun hd=>gg.p0 ((zxp.set hd).resolve_left (by decide))
     | exact fun hd=>gg.p1 ((zxp.set hd).resolve_left (by decide))
     | exact fun hd=>gg.p2 ((zxp.set hd).resolve_left (by decide))
     | exact fun hd=>gg.p3 ((zxp.set hd).resolve_left (by decide))
     | exact fun hd=>gg.p4 ((zxp.set hd).resolve_left (by decide))
     | exact fun hd=>gg.p5 ((zxp.set hd).resolve_left (by decide))
     | exact fun hd=>gg.p6 ((zxp.set hd).resolve_left (by decide))
     | exact fun hd=>gg.p7 ((zxp.set hd).resolve_left (by decide))
     | exact fun hd=>gg.p8 ((zxp.set hd).resolve_left (by decide))
     | exact fun hd=>gg.p9 ((zxp.set hd).resolve_left (by decide))
     | exact fun hd=>gg.p10 ((zxp.set hd).resolve_left (by decide))
     | exact fun hd=>gg.p11 ((zxp.set hd).resolve_left (by decide))
     | exact fun _=>rfl
   ·rw[if_pos (by rfl)]
    go_simp
    refine hK.out _ _ ?_
    try simp only[Act.put,List.setIfInBounds_toArray,List.set_cons_zero,List.set_cons_succ]
    refine⟨u4,_,_,_,_,_,_,_,_,_,_,_,_,rfl,hB,by simpa using hlz,Or.inr ?_⟩
    have gg:=g
    refine⟨fun hd=>gg.n12 ((zxp.set hd).resolve_left (by decide)),gg.c1,gg.c3,gg.c2,gg.fz,gg.fx,?_,?_,?_,?_,?_,?_,?_,?_,?_,?_,?_,?_⟩
    all_goals first
     | exact fun hd=>gg.p0 ((zxp.set hd).resolve_left (by decide))
     | exact fun hd=>gg.p1 ((zxp.set hd).resolve_left (by decide))
     | exact fun hd=>gg.p2 ((zxp.set hd).resolve_left (by decide))
     | exact fun hd=>gg.p3 ((zxp.set hd).resolve_left (by decide))
     | exact fun hd=>gg.p4 ((zxp.set hd).resolve_left (by decide))
     | exact fun hd=>gg.p5 ((zxp.set hd).resolve_left (by decide))
     | exact fun hd=>gg.p6 ((zxp.set hd).resolve_left (by decide))
     | exact fun hd=>gg.p7 ((zxp.set hd).resolve_left (by decide))
     | exact fun hd=>gg.p8 ((zxp.set hd).resolve_left (by decide))
     | exact fun hd=>gg.p9 ((zxp.set hd).resolve_left (by decide))
     | exact fun hd=>gg.p10 ((zxp.set hd).resolve_left (by decide))
     | exact fun hd=>gg.p11 ((zxp.set hd).resolve_left (by decide))
     | exact fun _=>rfl
   ·obtain rfl:=g.p3 hall.1
    obtain rfl:=g.p4 hall.2
    rw[if_pos (by rfl)]
    go_simp
    refine hK.out _ _ ?_
    try simp only[Act.put,List.setIfInBounds_toArray,List.set_cons_zero,List.set_cons_succ]
    refine⟨u4,_,_,_,_,_,_,_,_,_,_,_,_,rfl,zfa hB (zca _ _) (Nat.le_of_lt hsz),by simpa using hlz,Or.inr ?_⟩
    have gg:=fun o=>g.below (zca w' o)
    refine⟨fun hd=>g.n12 ((zxp.set hd).resolve_left (by decide)),(gg _).c1,(gg _).c3,(gg _).c2,(gg _).fz,(gg _).fx,?_,?_,?_,?_,?_,?_,?_,?_,?_,?_,?_,?_⟩
    all_goals first
     | exact fun hd=>g.p0 ((zxp.set hd).resolve_left (by decide))
     | exact fun hd=>g.p1 ((zxp.set hd).resolve_left (by decide))
     | exact fun hd=>(gg _).p2 ((zxp.set hd).resolve_left (by decide))
     | exact fun hd=>g.p3 ((zxp.set hd).resolve_left (by decide))
     | exact fun hd=>g.p4 ((zxp.set hd).resolve_left (by decide))
     | exact fun hd=>(gg _).p5 ((zxp.set hd).resolve_left (by decide))
     | exact fun hd=>(gg _).p6 ((zxp.set hd).resolve_left (by decide))
     | exact fun hd=>(gg _).p7 ((zxp.set hd).resolve_left (by decide))
     | exact fun hd=>g.p8 ((zxp.set hd).resolve_left (by decide))
     | exact fun hd=>(gg _).p9 ((zxp.set hd).resolve_left (by decide))
     | exact fun hd=>(gg _).p10 ((zxp.set hd).resolve_left (by decide))
     | exact fun hd=>(gg _).p11 ((zxp.set hd).resolve_left (by decide))
     | exact fun _=>⟨zbb.lit2 rfl g.fz g.fz,(show w'.heap.size≠b2 by omega)⟩
   ·have h2:=g.p2 hall.1
    have h5:=g.p5 hall.2
    obtain⟨m1,m2,m3,rfl,_⟩:=id h2.1.sl
    obtain⟨m4,m5,m6,rfl,_⟩:=id h5.1.sl
    rw[if_pos (by rfl)]
    go_simp
    refine hK.out _ _ ?_
    try simp only[Act.put,List.setIfInBounds_toArray,List.set_cons_zero,List.set_cons_succ]
    refine⟨u4,_,_,_,_,_,_,_,_,_,_,_,_,rfl,zfa hB (zca _ _) (Nat.le_of_lt hsz),by simpa using hlz,Or.inr ?_⟩
    have gg:=fun o=>g.below (zca w' o)
    refine⟨fun hd=>g.n12 ((zxp.set hd).resolve_left (by decide)),(gg _).c1,(gg _).c3,(gg _).c2,(gg _).fz,(gg _).fx,?_,?_,?_,?_,?_,?_,?_,?_,?_,?_,?_,?_⟩
    all_goals first
     | exact fun hd=>g.p0 ((zxp.set hd).resolve_left (by decide))
     | exact fun hd=>g.p1 ((zxp.set hd).resolve_left (by decide))
     | exact fun hd=>(gg _).p2 ((zxp.set hd).resolve_left (by decide))
     | exact fun hd=>g.p3 ((zxp.set hd).resolve_left (by decide))
     | exact fun hd=>g.p4 ((zxp.set hd).resolve_left (by decide))
     | exact fun hd=>(gg _).p5 ((zxp.set hd).resolve_left (by decide))
     | exact fun hd=>(gg _).p6 ((zxp.set hd).resolve_left (by decide))
     | exact fun hd=>(gg _).p7 ((zxp.set hd).resolve_left (by decide))
     | exact fun hd=>g.p8 ((zxp.set hd).resolve_left (by decide))
     | exact fun hd=>(gg _).p9 ((zxp.set hd).resolve_left (by decide))
     | exact fun hd=>(gg _).p10 ((zxp.set hd).resolve_left (by decide))
     | exact fun hd=>(gg _).p11 ((zxp.set hd).resolve_left (by decide))
     | exact fun _=>Mat2.lit rfl hsz h2.1 h5.1 h2.2 h5.2
   ·refine zjc rfl 20 #[.int .i64 1] ?_ (zas _) ?_
    ·go_simp
    rintro e5 w5 ⟨v5,rfl,hv5,hb5⟩
    refine⟨_,rfl,?_⟩
    refine hK.out _ _ ?_
    try simp only[Act.put,List.setIfInBounds_toArray,List.set_cons_zero,List.set_cons_succ]
    refine⟨u4,_,_,_,_,_,_,_,_,_,_,_,_,rfl,zfa hB hb5 (Nat.le_of_lt hsz),by simpa using hlz,Or.inr ?_⟩
    have gg:=g.below hb5
    refine⟨fun hd=>gg.n12 ((zxp.set hd).resolve_left (by decide)),gg.c1,gg.c3,gg.c2,gg.fz,gg.fx,?_,?_,?_,?_,?_,?_,?_,?_,?_,?_,?_,?_⟩
    all_goals first
     | exact fun hd=>gg.p0 ((zxp.set hd).resolve_left (by decide))
     | exact fun hd=>gg.p1 ((zxp.set hd).resolve_left (by decide))
     | exact fun hd=>gg.p2 ((zxp.set hd).resolve_left (by decide))
     | exact fun hd=>gg.p3 ((zxp.set hd).resolve_left (by decide))
     | exact fun hd=>gg.p4 ((zxp.set hd).resolve_left (by decide))
     | exact fun hd=>gg.p5 ((zxp.set hd).resolve_left (by decide))
     | exact fun hd=>gg.p6 ((zxp.set hd).resolve_left (by decide))
     | exact fun hd=>gg.p7 ((zxp.set hd).resolve_left (by decide))
     | exact fun hd=>gg.p8 ((zxp.set hd).resolve_left (by decide))
     | exact fun hd=>gg.p9 ((zxp.set hd).resolve_left (by decide))
     | exact fun hd=>gg.p10 ((zxp.set hd).resolve_left (by decide))
     | exact fun hd=>gg.p11 ((zxp.set hd).resolve_left (by decide))
     | exact fun _=>hv5
   ·rw[if_pos (by rfl)]
    go_simp
    refine hK.out _ _ ?_
    try simp only[Act.put,List.setIfInBounds_toArray,List.set_cons_zero,List.set_cons_succ]
    refine⟨u4,_,_,_,_,_,_,_,_,_,_,_,_,rfl,hB,by simpa using hlz,Or.inr ?_⟩
    have gg:=g
    refine⟨fun hd=>gg.n12 ((zxp.set hd).resolve_left (by decide)),gg.c1,gg.c3,gg.c2,gg.fz,gg.fx,?_,?_,?_,?_,?_,?_,?_,?_,?_,?_,?_,?_⟩
    all_goals first
     | exact fun hd=>gg.p0 ((zxp.set hd).resolve_left (by decide))
     | exact fun hd=>gg.p1 ((zxp.set hd).resolve_left (by decide))
     | exact fun hd=>gg.p2 ((zxp.set hd).resolve_left (by decide))
     | exact fun hd=>gg.p3 ((zxp.set hd).resolve_left (by decide))
     | exact fun hd=>gg.p4 ((zxp.set hd).resolve_left (by decide))
     | exact fun hd=>gg.p5 ((zxp.set hd).resolve_left (by decide))
     | exact fun hd=>gg.p6 ((zxp.set hd).resolve_left (by decide))
     | exact fun hd=>gg.p7 ((zxp.set hd).resolve_left (by decide))
     | exact fun hd=>gg.p8 ((zxp.set hd).resolve_left (by decide))
     | exact fun hd=>gg.p9 ((zxp.set hd).resolve_left (by decide))
     | exact fun hd=>gg.p10 ((zxp.set hd).resolve_left (by decide))
     | exact fun hd=>gg.p11 ((zxp.set hd).resolve_left (by decide))
     | exact fun _=>rfl
   ·obtain rfl:=g.p8 hall.2
    have h7:=g.p7 hall.1
    obtain⟨m1,m2,m3,rfl,_⟩:=id h7.isF
    rw[if_pos (by rfl)]
    go_simp
    refine hK.out _ _ ?_
    try simp only[Act.put,List.setIfInBounds_toArray,List.set_cons_zero,List.set_cons_succ]
    refine⟨u4,_,_,_,_,_,_,_,_,_,_,_,_,rfl,zfa hB (zca _ _) (Nat.le_of_lt hsz),by simpa using hlz,Or.inr ?_⟩
    have gg:=fun o=>g.below (zca w' o)
    refine⟨fun hd=>g.n12 ((zxp.set hd).resolve_left (by decide)),(gg _).c1,(gg _).c3,(gg _).c2,(gg _).fz,(gg _).fx,?_,?_,?_,?_,?_,?_,?_,?_,?_,?_,?_,?_⟩
    all_goals first
     | exact fun hd=>g.p0 ((zxp.set hd).resolve_left (by decide))
     | exact fun hd=>g.p1 ((zxp.set hd).resolve_left (by decide))
     | exact fun hd=>(gg _).p2 ((zxp.set hd).resolve_left (by decide))
     | exact fun hd=>g.p3 ((zxp.set hd).resolve_left (by decide))
     | exact fun hd=>g.p4 ((zxp.set hd).resolve_left (by decide))
     | exact fun hd=>(gg _).p5 ((zxp.set hd).resolve_left (by decide))
     | exact fun hd=>(gg _).p6 ((zxp.set hd).resolve_left (by decide))
     | exact fun hd=>(gg _).p7 ((zxp.set hd).resolve_left (by decide))
     | exact fun hd=>g.p8 ((zxp.set hd).resolve_left (by decide))
     | exact fun hd=>(gg _).p9 ((zxp.set hd).resolve_left (by decide))
     | exact fun hd=>(gg _).p10 ((zxp.set hd).resolve_left (by decide))
     | exact fun hd=>(gg _).p11 ((zxp.set hd).resolve_left (by decide))
     | exact fun _=>⟨zbb.lit2 rfl h7 g.fz,(show w'.heap.size≠b2 by omega)⟩
   ·rw[if_pos (by rfl)]
    go_simp
    refine hK.out _ _ ?_
    try simp only[Act.put,List.setIfInBounds_toArray,List.set_cons_zero,List.set_cons_succ]
    refine⟨u4,_,_,_,_,_,_,_,_,_,_,_,_,rfl,zfa hB (zca _ _) (Nat.le_of_lt hsz),by simpa using hlz,Or.inr ?_⟩
    have gg:=fun o=>g.below (zca w' o)
    refine⟨fun hd=>g.n12 ((zxp.set hd).resolve_left (by decide)),(gg _).c1,(gg _).c3,(gg _).c2,(gg _).fz,(gg _).fx,?_,?_,?_,?_,?_,?_,?_,?_,?_,?_,?_,?_⟩
    all_goals first
     | exact fun hd=>g.p0 ((zxp.set hd).resolve_left (by decide))
     | exact fun hd=>g.p1 ((zxp.set hd).resolve_left (by decide))
     | exact fun hd=>(gg _).p2 ((zxp.set hd).resolve_left (by decide))
     | exact fun hd=>g.p3 ((zxp.set hd).resolve_left (by decide))
     | exact fun hd=>g.p4 ((zxp.set hd).resolve_left (by decide))
     | exact fun hd=>(gg _).p5 ((zxp.set hd).resolve_left (by decide))
     | exact fun hd=>(gg _).p6 ((zxp.set hd).resolve_left (by decide))
     | exact fun hd=>(gg _).p7 ((zxp.set hd).resolve_left (by decide))
     | exact fun hd=>g.p8 ((zxp.set hd).resolve_left (by decide))
     | exact fun hd=>(gg _).p9 ((zxp.set hd).resolve_left (by decide))
     | exact fun hd=>(gg _).p10 ((zxp.set hd).resolve_left (by decide))
     | exact fun hd=>(gg _).p11 ((zxp.set hd).resolve_left (by decide))
     | exact fun _=>⟨bools_lit2 _ _ _ _ rfl,(show w'.heap.size≠b2 by omega)⟩
   ·have h6:=g.p6 hall.1
    have h9:=g.p9 hall.2.1
    have h10:=g.p10 hall.2.2
    obtain⟨m1,m2,m3,rfl,_⟩:=id h6.sl
    obtain⟨m4,m5,m6,rfl,_⟩:=id h9.1.sl
    obtain⟨m7,m8,m9,rfl,_⟩:=id (zhc.sl h10.1)
    rw[if_pos (by rfl)]
    go_simp
    refine hK.out _ _ ?_
    try simp only[Act.put,List.setIfInBounds_toArray,List.set_cons_zero,List.set_cons_succ]
    refine⟨u4,_,_,_,_,_,_,_,_,_,_,_,_,rfl,hB,by simpa using hlz,Or.inr ?_⟩
    have gg:=g
    refine⟨fun hd=>gg.n12 ((zxp.set hd).resolve_left (by decide)),gg.c1,gg.c3,gg.c2,gg.fz,gg.fx,?_,?_,?_,?_,?_,?_,?_,?_,?_,?_,?_,?_⟩
    all_goals first
     | exact fun hd=>gg.p0 ((zxp.set hd).resolve_left (by decide))
     | exact fun hd=>gg.p1 ((zxp.set hd).resolve_left (by decide))
     | exact fun hd=>gg.p2 ((zxp.set hd).resolve_left (by decide))
     | exact fun hd=>gg.p3 ((zxp.set hd).resolve_left (by decide))
     | exact fun hd=>gg.p4 ((zxp.set hd).resolve_left (by decide))
     | exact fun hd=>gg.p5 ((zxp.set hd).resolve_left (by decide))
     | exact fun hd=>gg.p6 ((zxp.set hd).resolve_left (by decide))
     | exact fun hd=>gg.p7 ((zxp.set hd).resolve_left (by decide))
     | exact fun hd=>gg.p8 ((zxp.set hd).resolve_left (by decide))
     | exact fun hd=>gg.p9 ((zxp.set hd).resolve_left (by decide))
     | exact fun hd=>gg.p10 ((zxp.set hd).resolve_left (by decide))
     | exact fun hd=>gg.p11 ((zxp.set hd).resolve_left (by decide))
     | exact fun _=>⟨_,_,_,rfl,h6,h9.1,h9.2,h10.1,h10.2⟩
   ·obtain⟨r,s,t,rfl,h1,h2,h3,h4,h5⟩:=g.p11 hall.1
    obtain⟨m1,m2,m3,rfl,_⟩:=id h1.sl
    obtain⟨m4,m5,m6,rfl,_⟩:=id h2.sl
    obtain⟨m7,m8,m9,rfl,_⟩:=id (zhc.sl h4)
    rw[if_pos (by rfl)]
    go_simp
    refine hK.out _ _ ?_
    refine⟨u4,_,_,_,_,_,_,_,_,_,_,_,_,rfl,zga hB (zLR _) _ _ _,by simpa using hlz,Or.inl ⟨?_,_,_,_,g.c2.set _ _ _,_,_,_,rfl,h1.set g.c2 (fun z=>by simp) (fun z=>by simp) (fun z=>by simp) _ _ _,h2.setC3g g.c2 (fun z=>by simp) (fun z=>by simp) (fun z=>by simp) h3 _ _ _,h4.setC3 h5 _ _ _⟩⟩
    unfold zxp
    simp[hlz]
 ·rintro l a w' ⟨u4,u5,u6,u7,u8,u9,u10,u11,u12,u13,u14,u15,u16,rfl,hB,hlz,hg⟩ hd
  rcases hg with⟨_,v0,v1,v2,hc,hch⟩ | g
  ·have HCH:=zH hch
   have HC9:=zH hc
   have HB9:=zH (Below.trans (HB3.out.mono (zLR _)) (hB.mono HB2.out))
   clear hd hch
   go_wp2_with fail
   exact zab rfl rfl (fun w=>by go_simp) (fun w=>by go_simp) HC9.out rfl ⟨_,rfl,HCH.out,HB9.out⟩
  ·exact absurd (hd 12 (by decide)) g.n12
end Go.Proofs.YtlpdkbmmbdfoiaaGreat
