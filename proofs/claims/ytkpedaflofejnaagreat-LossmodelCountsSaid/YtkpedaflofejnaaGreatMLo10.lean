/- Lemmas. -/
import Derived.Test.YtkpedaflofejnaaGreatMLn7
set_option linter.unusedVariables false
set_option linter.unusedSimpArgs false
namespace Go.Proofs.YtkpedaflofejnaaGreat
set_option maxHeartbeats 3200000
open Go.RowKit Go.Maps
theorem zjb.kept {w w':World} {v:Value} {l:List Nat} {S:List Nat} {B:Nat} (h:zjb w v l) (hk:zse S B w w') (hb:(base v).block<B) (hs:(base v).block∉S):zjb w' v l:=
 ⟨zta.sl h,zta.len h,λ j hj=>by rw[hk.cell (p:=ptr v j) (by rw[zma];exact hb) (by rw[zma];exact hs)];exact zta.cell h j hj⟩
def fulF (q1 q2 q3 q4 q5:Nat):Value:= .func (.func 102) #[] #[.pointer (some ⟨q1,0,none⟩), .pointer (some ⟨q2,0,none⟩), .pointer (some ⟨q3,0,none⟩), .pointer (some ⟨q4,0,none⟩), .pointer (some ⟨q5,0,none⟩)]
def FulH (ph:List Nat) (m i zeros:Nat) (u:List Nat) (L:List (List Nat)) (b:Bool):Prop:=
 u.length=ph.length/\zhb u/\L.length<128/\(L++(zxl ph m i zeros).map (u.take i++ ·)).Nodup/\zeros<=i/\b=decide (L.length+(zxl ph m i zeros).length<128)
def FulS (c:Cap) (ph:List Nat) (m i:Nat):Prop:=
 ∀ (ii zz:Int) (zeros:Nat) (u:List Nat) (lv:Value) (rs:List Value) (L:List (List Nat)) (b:Bool) (w:World),ii=(i:Nat)->zz=(zeros:Nat)->ClI c w lv rs L u->zjb w c.x4 ph->FulH ph m i zeros u L b->
  Calls Tryz.prog 102 #[.int .i64 ii, .int .i64 zz, .pointer (some ⟨c.q1,0,none⟩), .pointer (some ⟨c.q2,0,none⟩), .pointer (some ⟨c.q3,0,none⟩), .pointer (some ⟨c.q4,0,none⟩), .pointer (some ⟨c.q5,0,none⟩)] w (RWalk c w L ((zxl ph m i zeros).map (u.take i++ ·)) u i b)
set_option maxRecDepth 100000 in
theorem ful1_over (c:Cap) (ph:List Nat) (m i:Nat) (hc:c.x1= .int .i64 (m:Nat)) (ii zz:Int) (zeros:Nat) (u:List Nat) (lv:Value) (rs:List Value) (L:List (List Nat)) (b:Bool) (w:World) (hzz:zz=(zeros:Nat)) (hI:ClI c w lv rs L u) (hH:FulH ph m i zeros u L b) (hz:m<zeros):
 Calls Tryz.prog 102 #[.int .i64 ii, .int .i64 zz, .pointer (some ⟨c.q1,0,none⟩), .pointer (some ⟨c.q2,0,none⟩), .pointer (some ⟨c.q3,0,none⟩), .pointer (some ⟨c.q4,0,none⟩), .pointer (some ⟨c.q5,0,none⟩)] w (RWalk c w L ((zxl ph m i zeros).map (u.take i++ ·)) u i b):=by
 subst hzz;have HT:=zH (fulT_over hz (u.take i) (ph:=ph) (i:=i))
 have HB:zI (b=true):=zH (by
  rw[hH.2.2.2.2.2];have e:(zxl ph m i zeros).length=0:=by have:=congrArg List.length HT.o;simpa using this
  rw[e];exact zDT hH.2.2.1)
 have HI:=zH hI;have HS:=zH hH.2.1;have c1:=hI.c1;rw[hc]at c1;have e1:decide (m<zeros)=true:=zDT hz;clear hI hH hz hc;go_enter Tryz.func102,Tryz.ntmps102;go_wp2_with fail;go_ret;refine⟨by rw[HB.o];rfl,zse.refl _ _ _,λ _=>⟨lv,rs,u,?_,rfl,rfl,HS.o⟩⟩;rw[HT.o,List.append_nil];exact HI.o
set_option maxRecDepth 100000 in
theorem ful1_leaf (c:Cap) (ph:List Nat) (m:Nat) (hc:c.x1= .int .i64 (m:Nat)) (hp1:1<=ph.length) (hp:ph.length<=50) (ii zz:Int) (zeros:Nat) (u:List Nat) (lv:Value) (rs:List Value) (L:List (List Nat)) (b:Bool) (w:World) (hii:ii=(ph.length:Nat)) (hzz:zz=(zeros:Nat)) (hI:ClI c w lv rs L u) (hH:FulH ph m ph.length zeros u L b) (hz:zeros<=m):
 Calls Tryz.prog 102 #[.int .i64 ii, .int .i64 zz, .pointer (some ⟨c.q1,0,none⟩), .pointer (some ⟨c.q2,0,none⟩), .pointer (some ⟨c.q3,0,none⟩), .pointer (some ⟨c.q4,0,none⟩), .pointer (some ⟨c.q5,0,none⟩)] w (RWalk c w L ((zxl ph m ph.length zeros).map (u.take ph.length++ ·)) u ph.length b):=by
 subst hzz;obtain⟨h1,h2,h3,h4,_,h6⟩:=hH;have hT:=fulT_leaf (ph:=ph) hz (u.take ph.length);have htk:u.take ph.length=u:=by rw[<-h1];exact zTL (zLR _)
 rw[htk]at hT h4 |-
 have hlen:(zxl ph m ph.length zeros).length=1:=by have:=congrArg List.length hT;simpa using this
 rw[hT]at h4 |-
 rw[hlen]at h6;obtain⟨n,hn⟩:∃n,ph.length=n:=⟨_,rfl⟩;rw[hn]at hii hp hp1 h1;rw[hn];subst hii;have hnd:u∉L:=λ hm=>(List.nodup_append.1 h4).2.2 _ hm _ (by simp) rfl
 have hsl:=hI.row.sl;have hlen2:slen c.gv=n:=by rw[hI.row.len];simp;omega
 have c1:=hI.c1;have c2:=hI.c2;have c3:=hI.c3;rw[hc]at c1;have e1:decide (m<zeros)=false:=zDF zO;have e2:((n:Int)==(n:Int))=true:=by simp
 have HI:=zH hI;have HS:=zH h2;have HND:=zH hnd;have HUL:=zH h1;have HBB:=zH h6;have HTK:=zH htk;have HVB:zI ((base c.gv).block≠c.mb):=zH (by rw[hI.ok.ob];exact hI.ok.gmb);clear hI h1 h2 h4 h6 hnd hc hT hlen hz hn htk;go_enter Tryz.func102,Tryz.ntmps102
 go_wp2_with (first
  |(go_at_call 103;(with_reducible refine(vadd_any _ u _ c.B c.vb c.mb lv rs L HI.o.natsV HI.o.vec HS.o HND.o (by rw[HUL.o];omega) (by rw[HUL.o];omega) zO HVB.o).mono ?_);rintro e3 w3 ⟨rfl,lv3,rs3,hv3,hk3⟩;have HT:=zH (HI.o.turn hv3 hk3);have g0:=hv3.c0;have g3:=HT.o.1.c3;have s3:=hv3.sl;(have n3:slen lv3=L.length+1:=by rw[hv3.len];simp);clear hv3 hk3 c2 c3))
 go_ret;refine⟨?_,HT.o.2,λ _=>⟨_,_,_,HT.o.1,rfl,rfl,HS.o⟩⟩;have h4:((L.length+1:Nat):Int)=(L.length:Int)+1:=zO;rw[HBB.o]
 first
  | rfl
  |(simp;omega)
  |(congr 2;simp;omega)
theorem FulH.round {ph:List Nat} {m i zeros:Nat} {u u':List Nat} {L:List (List Nat)} {b:Bool} {x:Nat} (h:FulH ph m i zeros u L b) (hi:i<ph.length) (hz:zeros<=m) (hx:x<=ph[i]) (hu':u'.length=u.length) (hs:zhb u') (ht:u'.take (i+1)=u.take i++ [x]) (hl:(L++zhl ph m i zeros (u.take i) x).length<128):
 FulH ph m (i+1) (zeros+zOf x) u' (L++zhl ph m i zeros (u.take i) x) (decide ((L++zhl ph m i zeros (u.take i) (x+1)).length<128))/\
  (L++zhl ph m i zeros (u.take i) x)++(zxl ph m (i+1) (zeros+zOf x)).map (u'.take (i+1)++ ·)=L++zhl ph m i zeros (u.take i) (x+1)/\(b=true->(L++zhl ph m i zeros (u.take i) (x+1)).length<128):=by
 obtain⟨h1,h2,h3,h4,h5,h7⟩:=h;have e2:(L++zhl ph m i zeros (u.take i) x)++(zxl ph m (i+1) (zeros+zOf x)).map (u'.take (i+1)++ ·)=L++zhl ph m i zeros (u.take i) (x+1):=by rw[ht,fulD_succ,List.append_assoc]
 rw[zqm hi hz]at h4;obtain⟨t,ht2⟩:=fulD_prefix (ph:=ph) (m:=m) (i:=i) (zeros:=zeros) (pre:=u.take i) (show x+1<=ph[i]+1 by omega);have e3:(L++zhl ph m i zeros (u.take i) (x+1)).length=(L++zhl ph m i zeros (u.take i) x).length+(zxl ph m (i+1) (zeros+zOf x)).length:=by rw[<-e2,zLA,zMP]
 have hzo:zOf x<=1:=by unfold zOf;split<;>omega
 refine⟨⟨by rw[hu',h1],hs,hl,by rw[e2];exact nodup_pre h4 ht2,zO,by rw[e3]⟩,e2,λ hb=> ?_⟩;rw[hb]at h7;have h8:=of_decide_eq_true h7.symm;have h9:(zxl ph m i zeros).length=(zhl ph m i zeros (u.take i) (ph[i]+1)).length:=by rw[<-zqm hi hz];simp
 have h10:=zop ht2;rw[zLA];omega
theorem FulH.all {ph:List Nat} {m i zeros:Nat} {u:List Nat} {L:List (List Nat)} {b:Bool} (h:FulH ph m i zeros u L b) (hi:i<ph.length) (hz:zeros<=m) (hl:(L++zhl ph m i zeros (u.take i) (ph[i]+1)).length<128):b=true:=by
 obtain⟨h1,h2,h3,h4,h5,rfl⟩:=h;have h9:(zxl ph m i zeros).length=(zhl ph m i zeros (u.take i) (ph[i]+1)).length:=by rw[<-zqm hi hz];simp
 rw[zLA]at hl;exact zDT zO
theorem zvd {u p:List Nat} {i x:Nat} (h:u.take (i+1)=p++ [x]) (hp:p.length=i) (hi:i<u.length):u[i]=x:=by
 have h1:(u.take (i+1))[i]'(by simp;omega)=u[i]:=by rw[List.getElem_take]
 rw[<-h1];simp only[h];rw[List.getElem_append_right zO];simp[hp]
set_option maxRecDepth 100000 in
theorem ful1_step (c:Cap) (ph:List Nat) (m i:Nat) (hi:i<ph.length) (hp:ph.length<=50) (hm:m<=50) (hc:c.x1= .int .i64 (m:Nat)) (hcf:c.f=fulF c.q1 c.q2 c.q3 c.q4 c.q5) (hpb:(base c.x4).block<c.B/\(base c.x4).block∉c.S) (hp4:∀x∈ph,x<=50) (IH:FulS c ph m (i+1)):FulS c ph m i:=by
 intro ii zz zeros u lv rs L b w hii hzz hI hPW hH;by_cases hz:m<zeros
 ·exact ful1_over c ph m i hc ii zz zeros u lv rs L b w hzz hI hH hz
 subst hzz;have hz2:zeros<=m:=zO;have HH:=zH hH;have HIH:=zH IH;have HI:=zH hI;have HPH:=zH hPW;have HPB:=zH hpb;have HCF:=zH hcf;have hul:i<u.length:=by rw[hH.1];omega
 have HUL:=zH hul;have HTL:zI ((u.take i).length=i):=zH (by simp;omega);have hy:ph[i]<=50:=hp4 _ (zGM hi);have HALL:=zH (λ h=>HH.o.all hi hz2 h);have HRND:=zH (fun(x:Nat) (u':List Nat) (hx:x<=ph[i]) h1 h2 h3 h4=>HH.o.round (x:=x) (u':=u') hi hz2 hx h1 h2 h3 h4);have HTA:=zH (zqm hi hz2 (u.take i));have HAT:zI (∀ (wq:World),zjb wq c.x4 ph->wq.cell? (ptr c.x4 i)=some (.int .i64 (ph[i]:Nat))):=zH (λ wq h=>h.at' i hi);generalize ph[i]=y at *
 obtain⟨n,hn⟩:∃n,ph.length=n:=⟨_,rfl⟩;rw[hn]at hi hp;have HN:=zH hn;subst hii;have hsl:=hI.row.sl;have hlen:slen c.gv=n:=by rw[hI.row.len];simp;rw[hH.1];exact hn
 have psl:=hPW.sl;have plen:slen c.x4=n:=by rw[hPW.len];exact hn
 have c1:=hI.c1;have c2:=hI.c2;rw[hc]at c1;have e1:decide (m<zeros)=false:=zDF zO;have e2:((i:Int)==(n:Int))=false:=by simp;omega
 have i1:(0:Int)<=(i:Int):=zO;have i2:(i:Int)<(n:Nat):=zO;have hzi:zeros<=i:=hH.2.2.2.2.1;obtain⟨z0,cz⟩:∃z,w.cell? (ptr c.gv i)=some z:=⟨_,hI.row.cell i (by simpa using hul)⟩;have fz:=hI.row.frozen i (by simpa using hul);have hput:=hI.put hul 0;have HP:=zH hput;have HI0:zI (ClI c (w.setCell (ptr c.gv i) (.int .i64 0)) lv rs (L++zhl ph m i zeros (u.take i) 0) (u.set i 0)):=zH (by rw[fulD_zero,List.append_nil];exact hput.1);have HE0:zI ((L++zhl ph m i zeros (u.take i) 0).length<128/\(u.set i 0).length=u.length/\zhb (u.set i 0)/\(u.set i 0).take (i+1)=u.take i++ [0]/\zse c.S c.B w (w.setCell (ptr c.gv i) (.int .i64 0))):=zH ⟨by rw[fulD_zero,List.append_nil];exact hH.2.2.1,by rw[zGS],hH.2.1.set _ zD,zlh hul 0,hput.2⟩;have HP0:zI (zjb (w.setCell (ptr c.gv i) (.int .i64 0)) c.x4 ph):=zH (hPW.kept hput.2 hpb.1 hpb.2);clear hH IH hI hPW hpb hcf hul hput hn hc hz;go_enter Tryz.func102,Tryz.ntmps102;go_wp2_with fail;clear c1 c2 cz fz;go_loopg [10] (y+1) (λ g u10 wr=>∃ (x:Nat) (lv:Value) (rs:List Value) (u':List Nat),x<=y+1/\g=y+1-x/\ClI c wr lv rs (L++zhl ph m i zeros (u.take i) x) u'/\zjb wr c.x4 ph/\(L++zhl ph m i zeros (u.take i) x).length<128/\u'.length=u.length/\zhb u'/\u'.take (i+1)=u.take i++ [x]/\zse c.S c.B w wr);case atStart=>exact⟨0,lv,rs,_,zZL _,rfl,HI0.o,HP0.o,HE0.o.1,HE0.o.2.1,HE0.o.2.2.1,HE0.o.2.2.2.1,HE0.o.2.2.2.2⟩
 case round=>
  obtain⟨x,lv1,rs1,u1,hx,hg,hI1,hP1,hl1,hu1,hs1,ht1,hk1⟩:=hrel;obtain⟨wx,hwx⟩:∃w6,w6=wr:=⟨_,rfl⟩;subst hwx;have HG:=zH hg;have hbd:=zha (B:=wx.heap.size) wx;have HI1:=zH (hI1.bw hbd);have HPW:=zH (hP1.bw hbd);have HL1:=zH hl1;have HU1:=zH hu1;have HS1:=zH hs1;have HT1:=zH ht1;have HK1:=zH (hk1.trans (zse.bw hbd hI1.vec.sz));have hi1:i<u1.length:=by rw[hu1];exact HUL.o
  have c2:=hI1.c2;have c4:=hI1.c4;have cz:=hI1.natsV.at' i hi1;rw[zvd ht1 HTL.o hi1]at cz;have rz:=HAT.o _ hP1;have c5:=hI1.c5;rw[HCF.o]at c5;unfold fulF at c5;clear hg hI1 hP1 hl1 hu1 hs1 ht1 hk1 hi1 HI0 HP0 HE0;by_cases hxk:x<=y
  ·have HR:=zH (HRND.o x u1 hxk HU1.o HS1.o HT1.o HL1.o);have HX:=zH hxk;have HX50:zI (x+1<256):=zH zO;have i3:decide (x<=y)=true:=zDT hxk;have hx50:x<=50:=zO;clear hxk hx;by_cases hb:(L++zhl ph m i zeros (u.take i) (x+1)).length<128
   ·have HB:=zH hb;clear hb;by_cases h0:x=0
    ·have HZO:zI (zOf x=1):=zH (by unfold zOf;rw[zIP h0]);(have e0:((x:Int)==0)=true:=by simp;omega);clear h0
     have HC:zI (∀ii zz:Int,ii=((i+1:Nat):Int)->zz=((zeros+1:Nat):Int)->Calls Tryz.prog 102 #[.int .i64 ii, .int .i64 zz, .pointer (some ⟨c.q1,0,none⟩), .pointer (some ⟨c.q2,0,none⟩), .pointer (some ⟨c.q3,0,none⟩), .pointer (some ⟨c.q4,0,none⟩), .pointer (some ⟨c.q5,0,none⟩)] wx.drew (λ e w3=>e= .returned (.bool true)/\∃lv rs u',ClI c w3 lv rs (L++zhl ph m i zeros (u.take i) (x+1)) u'/\u'.length=u.length/\u'.take (i+1)=u.take i++ [x]/\zhb u'/\zse c.S c.B wx.drew w3)):=zH (λ ii zz h1 h2=>by
      refine(HIH.o ii zz _ _ _ _ _ _ _ h1 (by rw[HZO.o];exact h2) HI1.o HPW.o HR.o.1).mono ?_;rintro e w3 ⟨rfl,k1,k2⟩;obtain⟨lv,rs,u',k3,k4,k5,k6⟩:=k2 (zDT HB.o);rw[HR.o.2.1]at k3;exact⟨by rw[zDT HB.o],lv,rs,u',k3,by rw[k4];exact HU1.o,by rw[k5];exact HT1.o,k6,k1⟩)
     go_wp2_with fail;(go_region);clear c2 c4 cz rz c5 hbd;generalize wx.drew=wd at *
     have c2:=HI1.o.c2;have c5:=HI1.o.c5;rw[HCF.o]at c5;unfold fulF at c5;have cz:=HI1.o.natsV.at' i (by rw[HU1.o];exact HUL.o);rw[zvd HT1.o HTL.o (by rw[HU1.o];exact HUL.o)]at cz
     go_wp2_with (first
      |(go_at_call 102;(with_reducible refine(HC.o _ _ zO zO).mono ?_);rintro e3 w3 ⟨rfl,lv3,rs3,u3,hI3,hu3,ht3,hs3,hk3⟩
        (have hi3:i<u3.length:=by rw[hu3];exact HUL.o);have d2:=hI3.c2;have dz:=hI3.natsV.at' i hi3;rw[zvd ht3 HTL.o hi3]at dz;have df:=hI3.row.frozen i (by simpa using hi3);have hput:=hI3.put hi3 (x+1);rw[show zod (x+1)= .int .i64 ((x:Int)+1)from rfl]at hput;have hst:=zlh hi3 (x+1);have HI3:=zH hput.1
        have HE3:zI ((u3.set i (x+1)).length=u.length/\(u3.set i (x+1)).take (i+1)=u.take i++ [x+1]/\zhb (u3.set i (x+1))):=zH ⟨by rw[zGS];exact hu3,by
         rw[hst];have h6:=congrArg (List.take i) ht3;rw[List.take_take,Nat.min_eq_left zO,List.take_append_of_le_length (by rw[HTL.o];omega),List.take_take,Nat.min_self]at h6;rw[h6],hs3.set _ HX50.o⟩
        have HK3:=zH ((HK1.o.trans hk3).trans hput.2);have HP3:=zH (HPW.o.kept (hk3.trans hput.2) HPB.o.1 HPB.o.2);clear hI3 hu3 ht3 hs3 hk3 hput hst hi3 c2 c5 cz))
     go_roundg (y+1- (x+1));(case measure=>(have:=HG.o;have:=HX.o;omega));case rel=>exact⟨x+1,_,_,_,by have:=HX.o;omega,rfl,HI3.o,HP3.o,HB.o,HE3.o.1,HE3.o.2.2,HE3.o.2.1,HK3.o⟩
    ·have HZO:zI (zOf x=0):=zH (by unfold zOf;rw[zIN h0]);(have e0:((x:Int)==0)=false:=by simp;exact h0);clear h0
     have HC:zI (∀ii zz:Int,ii=((i+1:Nat):Int)->zz=((zeros+0:Nat):Int)->Calls Tryz.prog 102 #[.int .i64 ii, .int .i64 zz, .pointer (some ⟨c.q1,0,none⟩), .pointer (some ⟨c.q2,0,none⟩), .pointer (some ⟨c.q3,0,none⟩), .pointer (some ⟨c.q4,0,none⟩), .pointer (some ⟨c.q5,0,none⟩)] wx.drew (λ e w3=>e= .returned (.bool true)/\∃lv rs u',ClI c w3 lv rs (L++zhl ph m i zeros (u.take i) (x+1)) u'/\u'.length=u.length/\u'.take (i+1)=u.take i++ [x]/\zhb u'/\zse c.S c.B wx.drew w3)):=zH (λ ii zz h1 h2=>by
      refine(HIH.o ii zz _ _ _ _ _ _ _ h1 (by rw[HZO.o];exact h2) HI1.o HPW.o HR.o.1).mono ?_;rintro e w3 ⟨rfl,k1,k2⟩;obtain⟨lv,rs,u',k3,k4,k5,k6⟩:=k2 (zDT HB.o);rw[HR.o.2.1]at k3;exact⟨by rw[zDT HB.o],lv,rs,u',k3,by rw[k4];exact HU1.o,by rw[k5];exact HT1.o,k6,k1⟩)
     go_wp2_with fail;(go_region);clear c2 c4 cz rz c5 hbd;generalize wx.drew=wd at *
     have c2:=HI1.o.c2;have c5:=HI1.o.c5;rw[HCF.o]at c5;unfold fulF at c5;have cz:=HI1.o.natsV.at' i (by rw[HU1.o];exact HUL.o);rw[zvd HT1.o HTL.o (by rw[HU1.o];exact HUL.o)]at cz
     go_wp2_with (first
      |(go_at_call 102;(with_reducible refine(HC.o _ _ zO zO).mono ?_);rintro e3 w3 ⟨rfl,lv3,rs3,u3,hI3,hu3,ht3,hs3,hk3⟩
        (have hi3:i<u3.length:=by rw[hu3];exact HUL.o);have d2:=hI3.c2;have dz:=hI3.natsV.at' i hi3;rw[zvd ht3 HTL.o hi3]at dz;have df:=hI3.row.frozen i (by simpa using hi3);have hput:=hI3.put hi3 (x+1);rw[show zod (x+1)= .int .i64 ((x:Int)+1)from rfl]at hput;have hst:=zlh hi3 (x+1);have HI3:=zH hput.1
        have HE3:zI ((u3.set i (x+1)).length=u.length/\(u3.set i (x+1)).take (i+1)=u.take i++ [x+1]/\zhb (u3.set i (x+1))):=zH ⟨by rw[zGS];exact hu3,by
         rw[hst];have h6:=congrArg (List.take i) ht3;rw[List.take_take,Nat.min_eq_left zO,List.take_append_of_le_length (by rw[HTL.o];omega),List.take_take,Nat.min_self]at h6;rw[h6],hs3.set _ HX50.o⟩
        have HK3:=zH ((HK1.o.trans hk3).trans hput.2);have HP3:=zH (HPW.o.kept (hk3.trans hput.2) HPB.o.1 HPB.o.2);clear hI3 hu3 ht3 hs3 hk3 hput hst hi3 c2 c5 cz))
     go_roundg (y+1- (x+1));(case measure=>(have:=HG.o;have:=HX.o;omega));case rel=>exact⟨x+1,_,_,_,by have:=HX.o;omega,rfl,HI3.o,HP3.o,HB.o,HE3.o.1,HE3.o.2.2,HE3.o.2.1,HK3.o⟩
   ·have HNB:=zH hb
    have HBF:zI (b=false):=zH (by
     cases b with
     | false=>rfl
     | true=>exact absurd (HR.o.2.2 rfl) hb)
    clear hb;by_cases h0:x=0
    ·have HZO:zI (zOf x=1):=zH (by unfold zOf;rw[zIP h0]);(have e0:((x:Int)==0)=true:=by simp;omega);clear h0
     have HC:zI (∀ii zz:Int,ii=((i+1:Nat):Int)->zz=((zeros+1:Nat):Int)->Calls Tryz.prog 102 #[.int .i64 ii, .int .i64 zz, .pointer (some ⟨c.q1,0,none⟩), .pointer (some ⟨c.q2,0,none⟩), .pointer (some ⟨c.q3,0,none⟩), .pointer (some ⟨c.q4,0,none⟩), .pointer (some ⟨c.q5,0,none⟩)] wx.drew (λ e w3=>e= .returned (.bool false)/\zse c.S c.B wx.drew w3)):=zH (λ ii zz h1 h2=>by
      refine(HIH.o ii zz _ _ _ _ _ _ _ h1 (by rw[HZO.o];exact h2) HI1.o HPW.o HR.o.1).mono ?_;rintro e w3 ⟨rfl,k1,_⟩;exact⟨by rw[zDF HNB.o],k1⟩)
     go_wp2_with fail;(go_region);clear c2 c4 cz rz c5 hbd;generalize wx.drew=wd at *
     have c2:=HI1.o.c2;have c5:=HI1.o.c5;rw[HCF.o]at c5;unfold fulF at c5;have cz:=HI1.o.natsV.at' i (by rw[HU1.o];exact HUL.o);rw[zvd HT1.o HTL.o (by rw[HU1.o];exact HUL.o)]at cz
     go_wp2_with (first
      |(go_at_call 102;(with_reducible refine(HC.o _ _ zO zO).mono ?_);rintro e3 w3 ⟨rfl,hk3⟩;have HK3:=zH (HK1.o.trans hk3);clear hk3))
     go_ret;exact⟨by rw[HBF.o];rfl,HK3.o,λ h=>by rw[HBF.o]at h;cases h⟩
    ·have HZO:zI (zOf x=0):=zH (by unfold zOf;rw[zIN h0]);(have e0:((x:Int)==0)=false:=by simp;exact h0);clear h0
     have HC:zI (∀ii zz:Int,ii=((i+1:Nat):Int)->zz=((zeros+0:Nat):Int)->Calls Tryz.prog 102 #[.int .i64 ii, .int .i64 zz, .pointer (some ⟨c.q1,0,none⟩), .pointer (some ⟨c.q2,0,none⟩), .pointer (some ⟨c.q3,0,none⟩), .pointer (some ⟨c.q4,0,none⟩), .pointer (some ⟨c.q5,0,none⟩)] wx.drew (λ e w3=>e= .returned (.bool false)/\zse c.S c.B wx.drew w3)):=zH (λ ii zz h1 h2=>by
      refine(HIH.o ii zz _ _ _ _ _ _ _ h1 (by rw[HZO.o];exact h2) HI1.o HPW.o HR.o.1).mono ?_;rintro e w3 ⟨rfl,k1,_⟩;exact⟨by rw[zDF HNB.o],k1⟩)
     go_wp2_with fail;(go_region);clear c2 c4 cz rz c5 hbd;generalize wx.drew=wd at *
     have c2:=HI1.o.c2;have c5:=HI1.o.c5;rw[HCF.o]at c5;unfold fulF at c5;have cz:=HI1.o.natsV.at' i (by rw[HU1.o];exact HUL.o);rw[zvd HT1.o HTL.o (by rw[HU1.o];exact HUL.o)]at cz
     go_wp2_with (first
      |(go_at_call 102;(with_reducible refine(HC.o _ _ zO zO).mono ?_);rintro e3 w3 ⟨rfl,hk3⟩;have HK3:=zH (HK1.o.trans hk3);clear hk3))
     go_ret;exact⟨by rw[HBF.o];rfl,HK3.o,λ h=>by rw[HBF.o]at h;cases h⟩
  ·have HXE:zI (x=y+1):=zH zO;have HBT:=zH (HALL.o (by rw[<-HXE.o];exact HL1.o));have HI2:zI (ClI c wx.drew lv1 rs1 (L++(zxl ph m i zeros).map (u.take i++ ·)) u1):=zH (by rw[HTA.o,<-HXE.o];exact HI1.o)
   have HT2:zI (u1.take i=u.take i):=zH (by
    have h6:=congrArg (List.take i) HT1.o;rw[List.take_take,Nat.min_eq_left zO,List.take_append_of_le_length (by rw[HTL.o];omega),List.take_take,Nat.min_self]at h6;exact h6)
   have i3:decide (x<=y)=false:=zDF hxk;clear hxk hx;go_wp2_with fail;(go_region);clear c2 c4 cz rz c5 hbd;generalize wx.drew=wd at *
   go_wp2_with fail;go_ret;exact⟨by rw[HBT.o];rfl,HK1.o,λ _=>⟨_,_,_,HI2.o,HU1.o,HT2.o,HS1.o⟩⟩
theorem ful1_any (c:Cap) (ph:List Nat) (m:Nat) (hp1:1<=ph.length) (hp:ph.length<=50) (hm:m<=50) (hc:c.x1= .int .i64 (m:Nat)) (hcf:c.f=fulF c.q1 c.q2 c.q3 c.q4 c.q5) (hpb:(base c.x4).block<c.B/\(base c.x4).block∉c.S) (hp4:∀x∈ph,x<=50):∀d,d<=ph.length->FulS c ph m (ph.length-d)
 | 0,_=>λ ii zz zeros u lv rs L b w hii hzz hI hPW hH=>by
   rw[Nat.sub_zero]at *
   by_cases hz:m<zeros
   ·exact ful1_over c ph m _ hc ii zz zeros u lv rs L b w hzz hI hH hz
   ·exact ful1_leaf c ph m hc hp1 hp ii zz zeros u lv rs L b w hii hzz hI hH zO
 | d+1,h=>by
   have ih:=ful1_any c ph m hp1 hp hm hc hcf hpb hp4 d zO;have e:ph.length-d=ph.length- (d+1)+1:=zO;rw[e]at ih;exact ful1_step c ph m (ph.length- (d+1)) zO hp hm hc hcf hpb hp4 ih
theorem fulT_start (ph:List Nat) (m:Nat):(zxl ph m 0 0).map (([]:List Nat)++ ·)=zbb ph m:=by
 unfold zxl;rw[zIN zO];simp
theorem ful_start (w W2 w9 W5:World) (ph:List Nat) (m:Nat) (gp gv f:Value) (hgp:zjb w gp ph) (hp1:1<=ph.length) (hp8:ph.length<=8) (hp4:∀x∈ph,x<=50) (hm:m<=8) (e0:W2.cell? ⟨w.heap.size+1+1+1,0,none⟩=some (.slice none 0 0)) (em:W2.cell? ⟨w.heap.size+1+1+1,1,none⟩=some (.map (some (w.heap.size+1+1))))
 (ef:W2.frozen? ⟨w.heap.size+1+1+1,0,none⟩=false) (hmap:W2.ownsMap (H:=Unit) Tryz.prog 9 (plainElem Tryz.prog 3) (w.heap.size+1+1) 0 (.map [])) (hbw:Below w.heap.size w W2) (hsz:W2.heap.size=w.heap.size+5)
 (e1:W2.cell? ⟨w.heap.size,0,none⟩=some gp) (e3:W2.cell? ⟨w.heap.size+1+1+1+1,0,none⟩=some (.pointer (some ⟨w.heap.size+1+1+1,0,none⟩))) (e4:W2.cell? ⟨w.heap.size+1,0,none⟩=some (.int .i64 (m:Nat)))
 (hv:zib w9 3 W2.heap.size gv (List.replicate ph.length (.int .i64 0))) (hb9:Below W2.heap.size W2 w9) (hg9:W2.heap.size<=(base gv).block) {T5 T6:TypeId} (hW5:W5=(w9.alloc (.cells #[gv] T5)).alloc (.cells #[f] T6)) (hf:f=fulF (w.heap.size+1) w9.heap.size (w.heap.size+1+1+1+1) w.heap.size (w9.heap.size+1)):
 W5.cell? ⟨w.heap.size+1+1+1+1,0,none⟩=some (.pointer (some ⟨w.heap.size+1+1+1,0,none⟩))/\W5.cell? ⟨w9.heap.size+1,0,none⟩=some f/\
 ∀wd,Below W5.heap.size W5 wd->Calls Tryz.prog 102 #[.int .i64 0, .int .i64 0, .pointer (some ⟨w.heap.size+1,0,none⟩), .pointer (some ⟨w9.heap.size,0,none⟩), .pointer (some ⟨w.heap.size+1+1+1+1,0,none⟩), .pointer (some ⟨w.heap.size,0,none⟩), .pointer (some ⟨w9.heap.size+1,0,none⟩)] wd
  (λ e w'=>e= .returned (.bool (decide ((zbb ph m).length<128)))/\w'.cell? ⟨w.heap.size+1+1+1+1,0,none⟩=some (.pointer (some ⟨w.heap.size+1+1+1,0,none⟩))/\w'.cell? ⟨w9.heap.size+1,0,none⟩=some f/\Below w.heap.size w w'/\((zbb ph m).length<128->∃B mb lv rs,zsk w' B (w.heap.size+1+1+1) mb lv rs (zbb ph m))):=by
 obtain⟨hI,hb5⟩:=cap_start w W2 w9 W5 ph.length (w.heap.size+1) w.heap.size zO zO gv (.int .i64 (m:Nat)) gp f T5 T6 e0 em ef hmap hsz e4 e3 e1 hv zO hb9 hW5;refine⟨hI.c3,hI.c5,λ wd hbD=> ?_⟩;have hbW:Below w.heap.size w wd:=hbw.trans ((hb5.mono zO).trans (hbD.mono (by have:=hb5.size;omega)))
 have hgb:(base gp).block<w.heap.size:=by
  have h:=World.block_lt_of_cell? w _ (hgp.at' 0 zO);rwa[zma]at h
 have hS:=ful1_any (capC w.heap.size w9.heap.size (base gv).block (w9.heap.size+2) (w.heap.size+1) w.heap.size gv (.int .i64 (m:Nat)) gp f) ph m hp1 zO zO rfl hf ⟨by show(base gp).block<w9.heap.size+2;have:=hb9.size;omega,by show(base gp).block∉Cap.S _;unfold capC Cap.S;simp;omega⟩ hp4 ph.length (zLR _);rw[Nat.sub_self]at hS;have hL:=fulT_start ph m;have hlen:(zxl ph m 0 0).length=(zbb ph m).length:=by rw[<-hL];simp
 refine(hS 0 0 0 (List.replicate ph.length 0) _ _ [] (decide ((zbb ph m).length<128)) wd rfl rfl (hI.bw hbD) (hgp.bw hbW) ⟨by simp,zan _,zD,?_,zLR _,by simp[hlen]⟩).mono ?_
 ·rw[List.nil_append,List.take_zero,hL];exact zdj ph m
 ·rintro e w' ⟨rfl,hk,hv⟩
  have hB:Below w.heap.size wd w':=hk.toBelow (by show w.heap.size<=w9.heap.size+2;have:=hb9.size;omega) (λ k hk=>by
   unfold capC Cap.S at hk;simp at hk;rcases hk with rfl | rfl | rfl<;>omega)
  refine⟨rfl,?_,?_,hbW.trans hB,λ h=> ?_⟩
  ·rw[hk.cell (p:=⟨w.heap.size+1+1+1+1,0,none⟩) hI.ok.l3.1 hI.ok.l3.2];exact zca hbD hI.c3
  ·rw[hk.cell (p:=⟨w9.heap.size+1,0,none⟩) hI.ok.l5.1 hI.ok.l5.2];exact zca hbD hI.c5
  ·obtain⟨lv,rs,u',h1,_⟩:=hv (zDT h);rw[List.nil_append,List.take_zero,hL]at h1;exact⟨_,_,lv,rs,h1.vec⟩
def W2f (w:World) (gp:Value) (m:Nat):World:=((((w.alloc (.cells #[gp] 31)).alloc (.cells #[.int .i64 (m:Nat)] 3)).alloc (.map #[] 0)).alloc (.cells #[.slice none 0 0, .map (some (w.heap.size+1+1))] 80)).alloc (.cells #[.pointer (some ⟨w.heap.size+1+1+1,0,none⟩)] 73)
set_option maxRecDepth 100000 in
set_option maxHeartbeats 3200000 in
theorem full_any (gp:Value) (ph:List Nat) (m:Nat) (w:World) (hgp:zjb w gp ph) (hp1:1<=ph.length) (hp8:ph.length<=8) (hp4:∀x∈ph,x<=50) (hm:m<=8):
 Calls Tryz.prog 41 #[gp, .int .i64 (m:Nat)] w (RVecs w (zbb ph m)):=by
 obtain⟨i3,hi3,hz3,hs3,hy3⟩:=info_parts Tryz.infoInt;have hM:=zbo (P:=Tryz.prog) 31 3 i3 (.int .i64 0) Tryz.underlying31 hi3 hz3 hs3 (by rw[hy3];decide) rfl;have hmm:= @run_makeMap Tryz.prog;obtain⟨ag,ng,kg,rfl,_⟩:=id hgp.sl;have hng:ng=ph.length:=hgp.len;have HGP:=zH hgp;obtain⟨n,hn⟩:∃n,ph.length=n:=⟨_,rfl⟩;rw[hn]at hng hp1 hp8;subst hng;have HN:=zH hn;clear hi3 hz3 hs3 hy3 hgp hn;go_enter Tryz.func41,Tryz.ntmps41;go_upto_region 2 with fail;have e1:(W2f w (.slice ag ng kg) m).cell? ⟨w.heap.size,0,none⟩=some (.slice ag ng kg):=by unfold W2f;go_simp
 have e4:(W2f w (.slice ag ng kg) m).cell? ⟨w.heap.size+1,0,none⟩=some (.int .i64 (m:Nat)):=by unfold W2f;go_simp
 have e0:(W2f w (.slice ag ng kg) m).cell? ⟨w.heap.size+1+1+1,0,none⟩=some (.slice none 0 0):=by unfold W2f;go_simp
 have em:(W2f w (.slice ag ng kg) m).cell? ⟨w.heap.size+1+1+1,1,none⟩=some (.map (some (w.heap.size+1+1))):=by unfold W2f;go_simp
 have ef:(W2f w (.slice ag ng kg) m).frozen? ⟨w.heap.size+1+1+1,0,none⟩=false:=by unfold W2f;go_simp
 have e3:(W2f w (.slice ag ng kg) m).cell? ⟨w.heap.size+1+1+1+1,0,none⟩=some (.pointer (some ⟨w.heap.size+1+1+1,0,none⟩)):=by unfold W2f;go_simp
 have hmap:(W2f w (.slice ag ng kg) m).ownsMap (H:=Unit) Tryz.prog 9 (plainElem Tryz.prog 3) (w.heap.size+1+1) 0 (.map []):=by
  have h0:=World.ownsMap_made (H:=Unit) ((w.alloc (.cells #[.slice ag ng kg] 31)).alloc (.cells #[.int .i64 (m:Nat)] 3)) Tryz.prog 9 (plainElem Tryz.prog 3);have hs:((w.alloc (.cells #[.slice ag ng kg] 31)).alloc (.cells #[.int .i64 (m:Nat)] 3)).heap.size=w.heap.size+1+1:=by rw[sizeA,sizeA]
  rw[hs]at h0;exact(h0.alloc _).alloc _
 have hbw:Below w.heap.size w (W2f w (.slice ag ng kg) m):=by
  unfold W2f;exact((((zba w _).alloc (by simp) _).alloc (by simp;omega) _).alloc (by simp;omega) _).alloc (by simp;omega) _
 have hsz:(W2f w (.slice ag ng kg) m).heap.size=w.heap.size+5:=by unfold W2f;simp
 rw[show((((w.alloc (.cells #[.slice ag ng kg] 31)).alloc (.cells #[.int .i64 (m:Nat)] 3)).alloc (.map #[] 0)).alloc (.cells #[.slice none 0 0, .map (some (w.heap.size+1+1))] 80)).alloc (.cells #[.pointer (some ⟨w.heap.size+1+1+1,0,none⟩)] 73)=W2f w (.slice ag ng kg) m from rfl];have HE0:=zH e0;have HEM:=zH em;have HEF:=zH ef;have HMAP:=zH hmap;have HBW:=zH hbw;have HSZ:=zH hsz;have HE:=zH (zAI e1 (zAI e3 e4));generalize W2f w (.slice ag ng kg) m=W2 at *
 clear e0 em ef hmap hbw hsz e3 e4 hmm;go_upto_region 5 with(refine hM _ rfl _ _ rfl W2.heap.size _ ng rfl rfl rfl zO (zLR _) ?_;intro v9 w9 hv9 hb9 hg9;obtain⟨a9,n9,k9,rfl,_⟩:=id hv9.sl;have HV9:=zH hv9;have HB9:=zH hb9;have HG9:=zH hg9;clear hv9 hb9 hg9);rw[show(.func (.func 102) #[] #[.pointer (some ⟨w.heap.size+1,0,none⟩), .pointer (some ⟨w9.heap.size,0,none⟩), .pointer (some ⟨w.heap.size+1+1+1+1,0,none⟩), .pointer (some ⟨w.heap.size,0,none⟩), .pointer (some ⟨w9.heap.size+1,0,none⟩)]:Value)=fulF (w.heap.size+1) w9.heap.size (w.heap.size+1+1+1+1) w.heap.size (w9.heap.size+1)from rfl];obtain⟨W5,hW5⟩:∃W5,W5=(w9.alloc (.cells #[.slice a9 n9 k9] 31)).alloc (.cells #[fulF (w.heap.size+1) w9.heap.size (w.heap.size+1+1+1+1) w.heap.size (w9.heap.size+1)] 69):=⟨_,rfl⟩;have HC:=zH (ful_start w W2 w9 W5 ph m (.slice ag ng kg) (.slice a9 n9 k9) (fulF (w.heap.size+1) w9.heap.size (w.heap.size+1+1+1+1) w.heap.size (w9.heap.size+1)) HGP.o (by rw[HN.o];exact hp1) (by rw[HN.o];exact hp8) hp4 hm HE0.o HEM.o HEF.o HMAP.o HBW.o HSZ.o HE.o.1 HE.o.2.1 HE.o.2.2 (by rw[HN.o];exact HV9.o) HB9.o HG9.o hW5 rfl);rw[<-hW5];clear e1 HE0 HEM HEF HMAP HBW HSZ HE HV9 HB9 HG9 hW5 hM;have q3:=HC.o.1;have q5:=HC.o.2.1;unfold fulF at q5 |-
 refine wpL.st2 3 q3 q5 (λ wd hbD hHeld=> ?_);have HCD:=zH (HC.o.2.2 wd hbD);clear q3 q5 hbD HC;refine zY 0 ?_;refine zY 1 ?_;(refine zW 2 ?_;intro K hK);refine zla 102 #[.int .i64 0, .int .i64 0, .pointer (some ⟨w.heap.size+1,0,none⟩), .pointer (some ⟨w9.heap.size,0,none⟩), .pointer (some ⟨w.heap.size+1+1+1+1,0,none⟩), .pointer (some ⟨w.heap.size,0,none⟩), .pointer (some ⟨w9.heap.size+1,0,none⟩)] ?_ ?_ HCD.o ?_
 ·rfl
 ·go_simp
 rintro e5 w5 ⟨rfl,h3,h5,hb5,hv5⟩;have hH5:=zAI h3 h5;unfold fulF at hH5;refine⟨_,rfl,?_⟩;refine hK.o _ _ (λ _=>hH5) ?_;have HB5:=zH hb5;have HV5:=zH hv5;clear hK K hHeld hb5 hv5 HCD h3 h5;refine zS ?_;(refine zW 3 ?_;intro K hK);rw[zIP (by rfl)];go_simp;refine hK.o _ _ (λ _=>hH5) ?_;clear hK K;refine zS ?_;(refine zW 4 ?_;intro K hK);rw[zIP (by rfl)];go_simp;refine hK.o _ _ (λ _=>hH5) ?_;clear hK K;refine wpL.done (by kernel_rfl) ?_ _;refine zS ?_;go_wp2_with fail;go_ret2
 exact⟨_,rfl,HB5.o,λ h=>by
  obtain⟨B,mb,lv,rs,h1⟩:=HV5.o h;exact⟨B,mb,lv,rs,h1,zO⟩⟩
end Go.Proofs.YtkpedaflofejnaaGreat
