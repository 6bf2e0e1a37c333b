/- Lemmas. -/
import Derived.Test.YtlpdkbmmbdfoiaaGreatPRw1
set_option linter.unusedVariables false
set_option linter.unusedSimpArgs false
namespace Go.Proofs.YtlpdkbmmbdfoiaaGreat
open Go.RowKit
@[go_sem] theorem slen_lit2 (a : Option Addr) (n c : Nat) : slen (.slice a n c) = n := rfl
theorem zwf (va:Value) (x:RF) (w:World) (ha:zzb w va x.neg x.n x.d) (hx:x.ok):Calls Tryz.prog 116 #[va] w (RF0 w x.q):=
 (zji va x.neg x.n x.d w ha).mono λ e w' h=>by
  obtain⟨v,er,rfl,h1,h2,_⟩:=h;obtain⟨rfl,h3⟩:=h2 hx;exact⟨v,rfl,h3,h1⟩
theorem den_one {d:Nat} (h:zha d=1):d<4294967296/\∀ (wx:World) (g:Value),zub wx g d->wx.cell? (ptr g 0)=some (.int .u32 d):=by
 have h0:d≠0:=zfe.1 zO;have hb:d<4294967296:=by have:=znc.1 (Nat.le_of_eq h);simpa [pw]using this
 refine⟨hb,λ wx g hg=> ?_⟩;have h1:=hg.v;have e:zoa d= [d]:=by rw[zne h0,Nat.mod_eq_of_lt hb,Nat.div_eq_of_lt hb,zpc]
 rw[e]at h1;exact h1.cell 0 (by simp)
set_option maxRecDepth 100000 in
set_option maxHeartbeats 3200000 in
theorem zwn (va:Value) (l:List RF) (w:World) (ha:zlg w va l) (hok:∀x∈l,x.ok) (hl:l.length<=65536):
 Calls Tryz.prog 175 #[va] w λ e w'=>e= .returned (.int .i64 (wts (qs l):Nat))/\Below w.heap.size w w':=by
 have sa:=ha.sl;have la:=ha.len;have HOK:=zH hok;clear hok;go_enter Tryz.func175,Tryz.ntmps175;go_wp2_with fail;go_loopw [3,4] (λ u3 u4 wr=>∃ (k:Nat),k<=l.length/\u4= .int .i64 k/\u3= .int .i64 (wts (qs (l.take k)):Nat)/\Below w.heap.size w wr) (λ _ u4 _=>l.length- (intOf u4).toNat);case atStart=>exact⟨0,zZL _,rfl,by simp[qs,wts],zBR _ _⟩
 case round=>
  obtain⟨k,hk,rfl,rfl,hbr⟩:=hrel;by_cases hkl:k<l.length
  ·obtain⟨xa,xb,c1,c2,c3,hxa,hxb⟩:=(ha.bw hbr).at' k hkl;obtain⟨c1a,c1l,c1k,rfl,_⟩:=hxa.slen.1;obtain⟨c2a,c2l,c2k,rfl,_⟩:=hxb.slen.1;have HX:=zH (HOK.o l[k] (zGM hkl));have HTS:=zH (wts_qs l k hkl)
   have hWj:wts (qs (l.take k))<=8192*65536:=by
    have h1:=wts_le (l.take k) (λ x h=>HOK.o x (List.mem_of_mem_take h));rw[zTK]at h1;omega
   generalize l[k]'hkl=x at *
   generalize wts (qs (l.take k))=W1 at *
   have HA:zI (zzb wr (.agg #[.bool x.neg, .slice c1a c1l c1k, .slice c2a c2l c2k]) x.neg x.n x.d):=zH ⟨_,_,rfl,hxa,hxb⟩;obtain⟨hf1,hf2⟩:=RF.fits HX.o;have hn0:=zwd (n:=x.q.num.natAbs);have hd0:=x.q.den_nz;have hlp:=zfe (d:=x.q.num.natAbs);have hld:=zfe (d:=x.q.den);have HONE:=zH (den_one (d:=x.q.den));obtain⟨bn,hbn⟩:∃bn,zza x.q.num.natAbs=bn:=⟨_,rfl⟩;obtain⟨bd,hbd⟩:∃bd,zza x.q.den=bd:=⟨_,rfl⟩;obtain⟨ln,hln⟩:∃ln,zha x.q.num.natAbs=ln:=⟨_,rfl⟩;obtain⟨ld,hld2⟩:∃ld,zha x.q.den=ld:=⟨_,rfl⟩;rw[hbn]at hf1 hn0;rw[hbd]at hf2;rw[hln]at hlp;rw[hld2]at hld;have HBN:=zH hbn;have HBD:=zH hbd;have HLN:=zH hln;have HLD:=zH hld2;have hld0:0<ld:=hld.2 hd0;have i1:(0:Int)<=(k:Int):=zO;have i2:(k:Int)<(l.length:Nat):=zO;clear hbn hbd hln hld2 hxa hxb hld;by_cases hz:x.q.num=0
   ·(have hbz:bn=0:=by have:=hn0.1;omega);(have hlz:ln=0:=by have:=hlp.1;omega);have HW:=zH (wt_zero hz);have hlq:¬0<ln:=zO;have HB0:=zH hbz;clear hz hn0 hd0 hlp hlz hbz
    go_wp2_with (first
     |(go_at_call 116;(with_reducible refine(zwf _ x _ HA.o HX.o).mono ?_);rintro e w7 ⟨v,rfl,hv,hb7⟩;obtain⟨xa2,xb2,rfl,hxa2,hxb2⟩:=hv;obtain⟨y1,y2,y3,rfl,_⟩:=id hxa2.v.sl;obtain⟨y4,y5,y6,rfl,_⟩:=id hxb2.v.sl;have e2:y2=_:=hxa2.v.len.trans HLN.o;have e5:y5=_:=hxb2.v.len.trans HLD.o;subst e2 e5;have hb9:=zca w7 (.cells #[.bool (decide (x.q<0)), .slice y1 y2 y3, .slice y4 y5 y6] 38);have hC9:=C3.new w7 38 (.bool (decide (x.q<0))) (.slice y1 y2 y3) (.slice y4 y5 y6);have HC9:=zH hC9;have HXA:=zH (hxa2.bw hb9);have HXB:=zH (hxb2.bw hb9);have sB:=hxb2.v.sl;have hb8:=zaa (zaa hbr hb7) hb9;obtain⟨_,f0,f1,f2,_,_,_⟩:=id hC9;clear hC9 hxa2 hxb2 hb9)
     |(go_at_call 207;first
       |((with_reducible refine(zle _ _ _ HXA.o.nat).mono ?_);rintro e w8 ⟨rfl,hb10⟩;rw[HBN.o]
         have hb8:=zaa hb8 hb10;have HXB:=zH (HXB.o.bw hb10)
         skip
         obtain⟨_,f0,f1,f2,_,_,_⟩:=HC9.o.bS hb10)
       |((with_reducible refine(zle _ _ _ HXB.o.nat).mono ?_);rintro e w9 ⟨rfl,hb11⟩;rw[HBD.o]
         have hb8:=zaa hb8 hb11)))
    go_roundw;(case rel=>exact⟨k+1,hkl,by go_num,by rw[HTS.o,HW.o,HB0.o];go_num,hb8⟩);case measure=>simp[intOf];omega
   ·have hbz:0<bn:=hn0.2 zO;have hlz:0<ln:=hlp.2 zO;by_cases hd:x.q.den=1
    ·have HW:=zH (wt_int hz hd);(have hl1:ld=1:=by rw[<-HLD.o,hd];decide+kernel);have HC1:=zH (HONE.o (by rw[HLD.o];exact hl1));have HDE:zI (∀ (wx:World) (g:Value),zub wx g x.q.den->wx.cell? (ptr g 0)=some (.int .u32 (1:Nat))):=zH (λ wx g h=>by have:=HC1.o.2 wx g h;rwa[hd]at this);have hlq:¬1<ld:=zO;clear hz hn0 hd0 hlp hd hl1
     go_wp2_with (first
      |(go_at_call 116;(with_reducible refine(zwf _ x _ HA.o HX.o).mono ?_);rintro e w7 ⟨v,rfl,hv,hb7⟩;obtain⟨xa2,xb2,rfl,hxa2,hxb2⟩:=hv;obtain⟨y1,y2,y3,rfl,_⟩:=id hxa2.v.sl;obtain⟨y4,y5,y6,rfl,_⟩:=id hxb2.v.sl;have e2:y2=_:=hxa2.v.len.trans HLN.o;have e5:y5=_:=hxb2.v.len.trans HLD.o;subst e2 e5;have hb9:=zca w7 (.cells #[.bool (decide (x.q<0)), .slice y1 y2 y3, .slice y4 y5 y6] 38);have hC9:=C3.new w7 38 (.bool (decide (x.q<0))) (.slice y1 y2 y3) (.slice y4 y5 y6);have HC9:=zH hC9;have HXA:=zH (hxa2.bw hb9);have HXB:=zH (hxb2.bw hb9);have sB:=hxb2.v.sl;have hb8:=zaa (zaa hbr hb7) hb9;obtain⟨_,f0,f1,f2,_,_,_⟩:=id hC9;clear hC9 hxa2 hxb2 hb9)
      |(go_at_call 207;first
        |((with_reducible refine(zle _ _ _ HXA.o.nat).mono ?_);rintro e w8 ⟨rfl,hb10⟩;rw[HBN.o]
          have hb8:=zaa hb8 hb10;have HXB:=zH (HXB.o.bw hb10);have hden:=HDE.o _ _ HXB.o;obtain⟨_,f0,f1,f2,_,_,_⟩:=HC9.o.bS hb10)
        |((with_reducible refine(zle _ _ _ HXB.o.nat).mono ?_);rintro e w9 ⟨rfl,hb11⟩;rw[HBD.o]
          have hb8:=zaa hb8 hb11)))
     go_roundw;(case rel=>exact⟨k+1,hkl,by go_num,by rw[HTS.o,HW.o,HBN.o];go_num,hb8⟩);case measure=>simp[intOf];omega
    ·have HW:=zH (wt_frac hz hd);by_cases hl1:ld=1
     ·have HC1:=zH (HONE.o (by rw[HLD.o];exact hl1));obtain⟨dn,hdn⟩:∃dn,x.q.den=dn:=⟨_,rfl⟩;have hd2:1<dn:=zO;(have hd3:dn<4294967296:=by have:=HC1.o.1;omega);have HDE:zI (∀ (wx:World) (g:Value),zub wx g x.q.den->wx.cell? (ptr g 0)=some (.int .u32 dn)):=zH (λ wx g h=>by have:=HC1.o.2 wx g h;rwa[hdn]at this);have hlq:¬1<ld:=zO;clear hz hn0 hd0 hlp hd hdn hl1
      go_wp2_with (first
       |(go_at_call 116;(with_reducible refine(zwf _ x _ HA.o HX.o).mono ?_);rintro e w7 ⟨v,rfl,hv,hb7⟩;obtain⟨xa2,xb2,rfl,hxa2,hxb2⟩:=hv;obtain⟨y1,y2,y3,rfl,_⟩:=id hxa2.v.sl;obtain⟨y4,y5,y6,rfl,_⟩:=id hxb2.v.sl;have e2:y2=_:=hxa2.v.len.trans HLN.o;have e5:y5=_:=hxb2.v.len.trans HLD.o;subst e2 e5;have hb9:=zca w7 (.cells #[.bool (decide (x.q<0)), .slice y1 y2 y3, .slice y4 y5 y6] 38);have hC9:=C3.new w7 38 (.bool (decide (x.q<0))) (.slice y1 y2 y3) (.slice y4 y5 y6);have HC9:=zH hC9;have HXA:=zH (hxa2.bw hb9);have HXB:=zH (hxb2.bw hb9);have sB:=hxb2.v.sl;have hb8:=zaa (zaa hbr hb7) hb9;obtain⟨_,f0,f1,f2,_,_,_⟩:=id hC9;clear hC9 hxa2 hxb2 hb9)
       |(go_at_call 207;first
         |((with_reducible refine(zle _ _ _ HXA.o.nat).mono ?_);rintro e w8 ⟨rfl,hb10⟩;rw[HBN.o]
           have hb8:=zaa hb8 hb10;have HXB:=zH (HXB.o.bw hb10);have hden:=HDE.o _ _ HXB.o;obtain⟨_,f0,f1,f2,_,_,_⟩:=HC9.o.bS hb10)
         |((with_reducible refine(zle _ _ _ HXB.o.nat).mono ?_);rintro e w9 ⟨rfl,hb11⟩;rw[HBD.o]
           have hb8:=zaa hb8 hb11)))
      go_roundw;(case rel=>exact⟨k+1,hkl,by go_num,by rw[HTS.o,HW.o,HBN.o,HBD.o];go_num,hb8⟩);case measure=>simp[intOf];omega
     ·have hl2:1<ld:=zO;clear hz hn0 hd0 hlp hd
      go_wp2_with (first
       |(go_at_call 116;(with_reducible refine(zwf _ x _ HA.o HX.o).mono ?_);rintro e w7 ⟨v,rfl,hv,hb7⟩;obtain⟨xa2,xb2,rfl,hxa2,hxb2⟩:=hv;obtain⟨y1,y2,y3,rfl,_⟩:=id hxa2.v.sl;obtain⟨y4,y5,y6,rfl,_⟩:=id hxb2.v.sl;have e2:y2=_:=hxa2.v.len.trans HLN.o;have e5:y5=_:=hxb2.v.len.trans HLD.o;subst e2 e5;have hb9:=zca w7 (.cells #[.bool (decide (x.q<0)), .slice y1 y2 y3, .slice y4 y5 y6] 38);have hC9:=C3.new w7 38 (.bool (decide (x.q<0))) (.slice y1 y2 y3) (.slice y4 y5 y6);have HC9:=zH hC9;have HXA:=zH (hxa2.bw hb9);have HXB:=zH (hxb2.bw hb9);have sB:=hxb2.v.sl;have hb8:=zaa (zaa hbr hb7) hb9;obtain⟨_,f0,f1,f2,_,_,_⟩:=id hC9;clear hC9 hxa2 hxb2 hb9)
       |(go_at_call 207;first
         |((with_reducible refine(zle _ _ _ HXA.o.nat).mono ?_);rintro e w8 ⟨rfl,hb10⟩;rw[HBN.o]
           have hb8:=zaa hb8 hb10;have HXB:=zH (HXB.o.bw hb10)
           skip
           obtain⟨_,f0,f1,f2,_,_,_⟩:=HC9.o.bS hb10)
         |((with_reducible refine(zle _ _ _ HXB.o.nat).mono ?_);rintro e w9 ⟨rfl,hb11⟩;rw[HBD.o]
           have hb8:=zaa hb8 hb11)))
      go_roundw;(case rel=>exact⟨k+1,hkl,by go_num,by rw[HTS.o,HW.o,HBN.o,HBD.o];go_num,hb8⟩);case measure=>simp[intOf];omega
  ·obtain rfl:k=l.length:=zO;rw[List.take_length]at *
   go_wp2_with fail;go_ret;exact⟨rfl,hbr⟩
theorem r2order_can (va vb:Value) (p q:Rat) (w:World) (ha:zia w va p) (hb:zia w vb q) (hp:fits p) (hq:fits q):
 Calls Tryz.prog 100 #[va,vb] w λ en w'=>en= .returned (.int .i64 (zdl p q))/\Below w.heap.size w w':=by
 have h:=zoj va vb _ _ _ _ _ _ w ha.raw hb.raw (zvb hp) (zvb hq);rw[zmb,zmb]at h;exact h
set_option maxHeartbeats 800000 in
theorem r2less_can (va vb:Value) (p q:Rat) (w:World) (ha:zia w va p) (hb:zia w vb q) (hp:fits p) (hq:fits q):
 Calls Tryz.prog 50 #[va,vb] w λ en w'=>en= .returned (.bool (decide (zdl p q<0)))/\Below w.heap.size w w':=by
 obtain⟨t1,a11,l11,k11,a12,l12,k12,rfl⟩:=ha.iF;obtain⟨t2,a21,l21,k21,a22,l22,k22,rfl⟩:=hb.iF;have b1:=zca w (.cells #[.bool t1, .slice a11 l11 k11, .slice a12 l12 k12] 38);have b2:=zca (w.alloc (.cells #[.bool t1, .slice a11 l11 k11, .slice a12 l12 k12] 38)) (.cells #[.bool t2, .slice a21 l21 k21, .slice a22 l22 k22] 38);have HB:=zH (zaa b1 b2);have HX:=zH (ha.bw HB.o);have HY:=zH (hb.bw HB.o);have HP:=zH hp;have HQ:=zH hq;clear ha hb hp hq b1 b2;go_enter Tryz.func50,Tryz.ntmps50;go_wp2_with (go_at_call 100;(with_reducible refine(r2order_can _ _ p q _ HX.o HY.o HP.o HQ.o).mono ?_);rintro e3 w3 ⟨rfl,hb3⟩);go_ret;exact⟨rfl,zaa HB.o hb3⟩
def oth (y:Int) (n:Nat):Int:=if n%2=0 then y+((n/2+1:Nat):Int)else y- ((n/2+1:Nat):Int)
theorem oth_ne (y:Int) (n:Nat):oth y n≠y:=by unfold oth;split<;>omega
@[go_sem] theorem oth_beq (y : Int) (n : Nat) : (oth y n == y) = false := by simpa using oth_ne y n
@[go_sem] theorem beq_oth (y : Int) (n : Nat) : (y == oth y n) = false := by simpa using λ h => oth_ne y n h.symm
@[go_sem] theorem oth_bne (y : Int) (n : Nat) : (oth y n != y) = true := by simpa using oth_ne y n
@[go_sem] theorem bne_oth (y : Int) (n : Nat) : (y != oth y n) = true := by simpa using λ h => oth_ne y n h.symm
@[go_sem] theorem int_beq_self (y : Int) : (y == y) = true := by simp
@[go_sem] theorem int_bne_self (y : Int) : (y != y) = false := by simp
theorem cmpR_gt (p q:Rat):0<zdl p q↔q<p:=by
 unfold zdl;by_cases h1:p<q
 ·rw[zIP h1];exact⟨λ h=>absurd h zD,λ h=>absurd h1 (Rat.not_lt.2 (Rat.le_of_lt h))⟩
 ·rw[zIN h1];by_cases h2:q<p
  ·rw[zIP h2];exact⟨λ _=>h2,λ _=>zD⟩
  ·rw[zIN h2];exact⟨λ h=>absurd h zD,λ h=>absurd h h2⟩
theorem cmpR_lt (p q:Rat):zdl p q<0↔p<q:=by
 unfold zdl;by_cases h1:p<q
 ·rw[zIP h1];exact⟨λ _=>h1,λ _=>zD⟩
 ·rw[zIN h1];by_cases h2:q<p
  ·rw[zIP h2];exact⟨λ h=>absurd h zD,λ h=>absurd h h1⟩
  ·rw[zIN h2];exact⟨λ h=>absurd h zD,λ h=>absurd h h1⟩
end Go.Proofs.YtlpdkbmmbdfoiaaGreat
namespace Go.Proofs.YtlpdkbmmbdfoiaaGreat
def alikeQ (own:Int) (p q:List Rat):Prop:=∀ (i:Nat) (x y:Rat),(i:Int)≠own->p[i]? =some x->q[i]? =some y->x=y
def agree (bl:List Int) (f:Nat->List Rat) (g:Nat->Bool) (i j:Nat):Prop:=∀b,bl[i]? =some b->bl[j]? =some b->g i=g j/\alikeQ b (f i) (f j)
theorem foldl_shift (l:List Rat) (s x:Rat):l.foldl (· + ·) (s+x)=l.foldl (· + ·) s+x:=by
 induction l generalizing s with
 | nil=>rfl
 | cons y l ih=>
   simp only[List.foldl_cons];rw[show s+x+y=s+y+x by grind,ih]
section
variable {c:CQ} {of:List Int} {share:List Rat}
end
theorem zso (x:Rat) (l:List Rat):zef (x::l)=zef l+x:=by
 unfold zef;rw[List.foldl_cons,foldl_shift]
theorem wts_all3 {l:List Rat} {K:Nat} (h:∀q∈l,wt q<=K):wts l<=l.length*K:=by
 induction l with
 | nil=>simp[wts]
 | cons x l ih=>
   have h1:=h x (by simp);(have h2:=ih λ q hq=>h q (by simp[hq]));rw[zsi,List.length_cons,Nat.succ_mul];omega
section
variable {c:RC}
end
end Go.Proofs.YtlpdkbmmbdfoiaaGreat
namespace Go.Proofs.YtlpdkbmmbdfoiaaGreat
set_option maxHeartbeats 6400000
open Go.RowKit
theorem zqf.wt {q:Rat} (h:zqf q):Go.Proofs.YtlpdkbmmbdfoiaaGreat.wt q<=64:=by
 unfold Go.Proofs.YtlpdkbmmbdfoiaaGreat.wt;have h1:=h.2.1;have h2:=h.2.2;split
 ·omega
 ·split<;>omega
theorem zuo {l m:List Rat} (hs:l.Sublist m) (hl:∀q∈m,zqf q) (hn:m.length<=40):fits (zef l):=
 lsum_fits hs (λ q hq=>(hl q hq).1) (by
  have:=wts_all3 (l:=m) (K:=64) λ q hq=>(hl q hq).wt
  omega)
theorem znr (va:Value) (l:List Rat) (w:World) (ha:zwa w va l) (hl:∀q∈l,zqf q) (hn:l.length<=40):Calls Tryz.prog 137 #[va] w (RF0 w (zef l)):=by
 have h:=sum_frac va (l.map RF.of) w ha.raw (λ x hx=>by obtain⟨y,hy,rfl⟩:=List.mem_map.1 hx;exact RF.of_ok (hl y hy).fits) (λ k hk=>by
  rw[<-List.map_take,zxf];exact zuo (List.take_sublist _ _) hl hn)
 rw[zxf]at h;exact h
set_option maxRecDepth 100000 in
theorem zpq (w:World) (nm:Value):Calls Tryz.prog 58 #[.agg #[nm, .slice none 0 0, .slice none 0 0, .slice none 0 0]] w (λ e w'=>e= .returned (.bool false)/\Below w.heap.size w w'):=by
 obtain⟨_,c0,c1,c2,c3,_,_,_,_⟩:=C4.new w 52 nm (.slice none 0 0) (.slice none 0 0) (.slice none 0 0);have HB:=zH (zca w (.cells #[nm, .slice none 0 0, .slice none 0 0, .slice none 0 0] 52));go_enter Tryz.func58,Tryz.ntmps58
 go_wp2_with (first
  |(go_at_call 133;(with_reducible refine(fin_any 0 1 4 _).mono ?_);rintro e4 w4 ⟨rfl,rfl⟩))
 go_ret;exact⟨rfl,HB.o⟩
set_option maxRecDepth 100000 in
theorem zzd (va:Value) (l:LQ) (w:World) (ha:zxj w va l) (hl:znb l):Calls Tryz.prog 58 #[va] w (λ e w'=>e= .returned (.bool true)/\Below w.heap.size w w'):=by
 obtain⟨nm,sv,rv,ev,rfl,hs,hr,he⟩:=id ha;obtain⟨ra,rn,rk,rfl,_⟩:=id hr.sl;obtain⟨sa,sn,sk,rfl,_⟩:=id hs.sl;obtain⟨ea,en,ek,rfl,_⟩:=id he.sl;have hba:=zca w (.cells #[nm, .slice sa sn sk, .slice ra rn rk, .slice ea en ek] 52);have HC:=zH (C4.new w 52 nm (.slice sa sn sk) (.slice ra rn rk) (.slice ea en ek));have HA:=zH (ha.bw hba);have HS:=zH (hs.bw hba);have HR:=zH (hr.bw hba);have HE:=zH (he.bw hba);have HBW:=zH hba;have hsn:sn=l.start.length:=hs.len;have hen:en=l.start.length:=he.len.trans hl.el;have hrn:rn=l.start.length:=hr.len.trans hl.rl;obtain⟨n,hnn⟩:∃n,l.start.length=n:=⟨_,rfl⟩;have HN:=zH hnn;rw[hnn]at hen hsn hrn;have n1:1<=n:=by rw[<-hnn];exact hl.n1
 have n4:n<=4:=by rw[<-hnn];exact hl.n4
 obtain rfl:en=n:=hen;obtain rfl:sn=en:=hsn;obtain rfl:rn=sn:=hrn;have HL:=zH hl;have srt:=hr.sl;have sxt:=he.sl;have sst:=hs.sl
 have hin:(decide ((1:Int)<=(rn:Nat))&&decide (((rn:Nat):Int)<=4))=true:=by
  rw[zDT (show(1:Int)<=(rn:Nat)by omega),zDT (show((rn:Nat):Int)<=4 by omega)];rfl
 have HIN:=zH hin;clear hs hr he ha hl hba hnn hin;go_enter Tryz.func58,Tryz.ntmps58;go_upto_region 1 with fail;obtain⟨b,hb⟩:∃b,w.heap.size=b:=⟨_,rfl⟩;rw[hb]at HC |-
 clear hb;generalize w.alloc (.cells #[nm, .slice sa rn sk, .slice ra rn rk, .slice ea rn ek] 52)=W1 at *
 obtain⟨_,c0,c1,c2,c3,_,_,_,_⟩:=HC.o
 go_upto_region 4 with(first
  |(go_at_call 133;(with_reducible refine(fin_any _ _ _ _).mono ?_);rw[HIN.o];rintro e4 w4 ⟨rfl,hw4⟩;rw[hw4];clear hw4)
  |(go_at_call 134;(with_reducible refine(fall_ok _ l.start W1 HS.o HL.o.st (by have:=HL.o.n4;omega)).mono ?_);rintro e5 w5 ⟨rfl,hb5⟩;have HB5:=zH hb5;clear c0 c1 c2 c3;obtain⟨_,c0,c1,c2,c3,_,_,_,_⟩:=HC.o.bS hb5;clear hb5)
  |(go_at_call 134;(with_reducible refine(fall_ok _ l.exit w5 (HE.o.bw HB5.o) HL.o.ex (by have:=HL.o.n4;have:=HL.o.el;omega)).mono ?_);rintro e6 w6 ⟨rfl,hb6⟩;have HB6:=zH (zaa HB5.o hb6);clear c0 c1 c2 c3;obtain⟨_,c0,c1,c2,c3,_,_,_,_⟩:=HC.o.bS HB6.o;clear hb6))
 go_wp2_with fail;clear c0 c1 c2 c3;go_loopg [47] (rn) (λ g u47 wr=>∃ (k:Nat),k<=rn/\g=rn-k/\u47= .int .i64 k/\Below W1.heap.size W1 wr);case atStart=>exact⟨0,zZL _,rfl,rfl,HB6.o⟩
 case round=>
  obtain⟨k,hk,hg,rfl,hbr⟩:=hrel;obtain⟨wb,hwb⟩:∃wb,wb=wr:=⟨_,rfl⟩;subst hwb;have HG:=zH hg;have HBR:=zH hbr;clear hg hbr;by_cases hkl:k<rn
  ·(have hir:k<l.rates.length:=by rw[HL.o.rl,HN.o];exact hkl);obtain⟨rw1,hrv,hrow⟩:=HR.o.at' k hir;obtain⟨rl1,rl2,rl3⟩:=HL.o.row k hir;obtain⟨ua,un,uk,rfl,_⟩:=id hrow.sl;have srow:=hrow.sl;(have hun:un=rn:=by have h:=hrow.len;rw[rl1,HN.o]at h;exact h);subst hun;(have hkr:k<(l.rates[k]'hir).length:=by rw[rl1,HN.o];exact hkl);obtain⟨ts,as1,ls1,ks1,as2,ls2,ks2,g1,g2,g3,hfs⟩:=(hrow.bw HBR.o).cellsAt (k:=k) hkr;rw[rl3]at hfs;have HROW:=zH hrow;have HRL:=zH rl2;have HRLN:zI ((l.rates[k]'hir).length<=1000):=zH (by rw[rl1,HN.o];omega);have HFS:=zH hfs;have hri:=zba HBR.o hrv;have S0:=zH (zAI g1 (zAI g2 g3));have i1:(0:Int)<=(k:Int):=zO;have i2:(k:Int)<(un:Nat):=zO;clear hrv hrow rl1 rl2 rl3 hfs g1 g2 g3
   go_wp2_with (first
    |(go_at_call 134;(with_reducible refine(fall_ok _ _ _ (HROW.o.bw HBR.o) HRL.o HRLN.o).mono ?_);rintro e5 w5 ⟨rfl,hb5⟩;have HB5:=zH hb5;have g1:=zba hb5 S0.o.1;have g2:=zba hb5 S0.o.2.1;have g3:=zba hb5 S0.o.2.2;clear hb5)
    |(go_at_call 136;(with_reducible refine(zuh _ 0 _ (HFS.o.bw HB5.o)).mono ?_);rintro e7 w7 ⟨rfl,hb7⟩;have HB7:=zH (zaa HBR.o (zaa HB5.o hb7));clear hb7))
   go_roundg (un- (k+1));(case measure=>(have:=HG.o;omega));case rel=>exact⟨k+1,zO,rfl,by go_num,HB7.o⟩
  ·have HSUM:zI (zef l.start=1):=zH HL.o.sum;have HNL:zI (l.start.length<=40):=zH (by have:=HL.o.n4;omega);obtain rfl:k=rn:=zO;obtain⟨_,c0,c1,c2,c3,_,_,_,_⟩:=HC.o.bS HBR.o
   go_upto_region 11 with(first
    |(go_at_call 137;(with_reducible refine(znr _ l.start _ (HS.o.bw HBR.o) HL.o.st HNL.o).mono ?_);rw[HSUM.o];rintro e8 w8 ⟨v8,rfl,hv8,hb8⟩;obtain⟨t8,a81,l81,k81,a82,l82,k82,rfl⟩:=hv8.iF;have hba:=zca w8 (.cells #[.bool t8, .slice a81 l81 k81, .slice a82 l82 k82] 38);have hbb:=zaa hb8 hba;have HC8:=zH (C3.new w8 38 (.bool t8) (.slice a81 l81 k81) (.slice a82 l82 k82));have HF8:=zH (hv8.bw hba);have HB8:=zH (zaa HBR.o hbb);clear hv8 hb8 hba hbb c0 c1 c2 c3))
   obtain⟨b8,hb8⟩:∃b,w8.heap.size=b:=⟨_,rfl⟩;(rw[hb8]at HC8 |-);clear hb8;generalize w8.alloc (.cells #[.bool t8, .slice a81 l81 k81, .slice a82 l82 k82] 38)=W8 at *
   go_upto_region 12 with(first
    |(go_at_call 67;(with_reducible refine(make_11 _).mono ?_);rintro e9 w9 ⟨v9,rfl,hv9,hb9⟩;obtain⟨t9,a91,l91,k91,a92,l92,k92,rfl⟩:=hv9.iF;have hba:=zca w9 (.cells #[.bool t9, .slice a91 l91 k91, .slice a92 l92 k92] 38);have hbb:=zaa hb9 hba;have HC9:=zH (C3.new w9 38 (.bool t9) (.slice a91 l91 k91) (.slice a92 l92 k92));have HF9:=zH (hv9.bw hba);replace HC8:=zH (HC8.o.bS hbb);replace HF8:=zH (HF8.o.bw hbb);replace HB8:=zH (zaa HB8.o hbb);clear hv9 hb9 hba hbb))
   obtain⟨b9,hb9⟩:∃b,w9.heap.size=b:=⟨_,rfl⟩;(rw[hb9]at HC9 |-);clear hb9;generalize w9.alloc (.cells #[.bool t9, .slice a91 l91 k91, .slice a92 l92 k92] 38)=W9 at *
   obtain⟨_,d0,d1,d2,_,_,_⟩:=HC8.o;obtain⟨_,p0,p1,p2,_,_,_⟩:=HC9.o;obtain⟨_,c0,c1,c2,c3,_,_,_,_⟩:=HC.o.bS HB8.o
   go_wp2_with (first
    |(go_at_call 130;(with_reducible refine(cmp_can _ _ 1 1 _ HF8.o HF9.o zD zD).mono ?_);rw[(zvh 1 1).2 rfl];rintro e10 w10 ⟨rfl,hb10⟩;have HB10:=zH (zaa HB8.o hb10);clear c0 c1 c2 c3 d0 d1 d2 p0 p1 p2;obtain⟨_,c0,c1,c2,c3,_,_,_,_⟩:=HC.o.bS HB10.o;clear hb10)
    |(go_at_call 138;(with_reducible refine(fends_ok _ l _ (HA.o.bw HB10.o) HL.o).mono ?_);rintro e11 w11 ⟨rfl,hb11⟩;have HB11:=zH (zaa HB10.o hb11);clear hb11))
   go_ret;exact⟨rfl,HBW.o.trans (HB11.o.mono HBW.o.size)⟩
set_option maxRecDepth 100000 in
set_option maxHeartbeats 3200000 in
theorem blank1_any (b n:Nat) (w:World) (hc:w.cell? ⟨b,0,none⟩=some (.int .i64 (n:Nat))) (hn1:1<=n) (hn:n<=4):
 Calls Tryz.prog 164 #[.pointer (some ⟨b,0,none⟩)] w (λ e w'=>∃v,e= .returned v/\zec w' 38 w.heap.size v n/\(∀t,t<n->zri w' v t 0)/\Below w.heap.size w w'):=by
 obtain⟨i0,hi,hz0,hz1,hz2⟩:=info_parts Tryz.infoF;have hM:=zjr (P:=Tryz.prog) 25 38 i0 Tryz.underlying25 hi hz0 hz1 (by rw[hz2];decide);clear hi hz0 hz1 hz2;go_enter Tryz.func164,Tryz.ntmps164;go_wp2_with (refine hM w rfl _ _ rfl w.heap.size _ n rfl rfl rfl zO (zLR _) ?_;intro vO w5 hO5 hb5 hvO;have HO5:=zH hO5;have HB5:=zH hb5;have slO:=hO5.sl;have lnO:=hO5.len;clear hO5 hb5);clear hM;go_loopg [8] (n) (λ g u8 wr=>∃ (i:Nat),i<=n/\g=n-i/\u8= .int .i64 i/\zec wr 38 w.heap.size vO n/\(∀t,t<i->zri wr vO t 0)/\Below w.heap.size w wr);case atStart=>exact⟨0,zZL _,rfl,rfl,HO5.o,λ t h=>zO,HB5.o⟩
 case round=>
  obtain⟨i,hin,hg,rfl,ho,he,hbr⟩:=hrel;obtain⟨w6,hw6⟩:∃w6,w6=wr:=⟨_,rfl⟩;subst hw6;have HG:=zH hg;have HE:=zH he;have HO:=zH ho;have HBR:=zH hbr;clear he hg HO5 HB5;by_cases hil:i<n
  ·have i1:(0:Int)<=(i:Int):=zO;have i2:(i:Int)<(n:Nat):=zO;clear ho hbr
   go_wp2_with (first
    |(go_at_call 88;(with_reducible refine(zdf _).mono ?_);rintro e31 w31 ⟨v31,rfl,hv31,hb31⟩;obtain⟨t6,a61,l61,k61,a62,l62,k62,rfl⟩:=hv31.iF;have ho3:=HO.o.bw hb31;obtain⟨c0,d0,_⟩:=ho3.cell (i*3) zO;obtain⟨c1,d1,_⟩:=ho3.cell (i*3+1) zO;obtain⟨c2,d2,_⟩:=ho3.cell (i*3+2) zO;have f0:=ho3.frozen (i*3);have f1:=ho3.frozen (i*3+1);have f2:=ho3.frozen (i*3+2);have n01:=ho3.inj (show i*3≠i*3+1 by omega);have n02:=ho3.inj (show i*3≠i*3+2 by omega);have n12:=ho3.inj (show i*3+1≠i*3+2 by omega);have HS3:=zH (ho3.set3 i (.bool t6) (.slice a61 l61 k61) (.slice a62 l62 k62) zZ zZ zZ);have HE3:=zH (λ t ht=>(HE.o t ht).bw hb31);have HO3:=zH ho3;have HV6:=zH hv31;have HB3:=zH (zea HBR.o hb31 HBR.o.size);clear ho3 hv31 hb31))
   go_roundg (n- (i+1));case measure=>(have:=HG.o;omega)
   case rel=>
    refine⟨i+1,zO,rfl,by go_num,HS3.o.1,λ t ht=> ?_,HB3.o.trans HS3.o.2⟩;rcases zOG t i with h6 | h6
    ·exact zri.set3_other HO3.o hil zO (HE3.o t h6) _ _ _ zZ zZ
    ·obtain rfl:t=i:=zO;exact zri.set3 HO3.o hil HV6.o
  ·obtain rfl:i=n:=zO;go_wp2_with fail;go_ret;exact⟨vO,rfl,HO.o,HE.o,HBR.o⟩
def zlk (s:Bool) (n d:Nat):Prop:=okN n d/\0<fq s n d/\zza (fq s n d).num.natAbs<=32/\zza (fq s n d).den<=32
theorem zkc.over {w:World} {e:TypeId} {B size n:Nat} {v:Value} {xs:List Value} (h:zkc w e B size v n xs) {p:Addr} (hp:v.ownBlock=none\/v.ownBlock≠some p.block) (u:Value):zkc (w.setCell p u) e B size v n xs:=by
 have key:∀g,v.ownBlock=some g->(w.setCell p u).heap[g]? =w.heap[g]? :=λ g hg=>Below.heap_setCell _ _ _ _ (by
  intro e;rcases hp with h1 | h1
  ·rw[hg]at h1;cases h1
  ·exact h1 (by rw[hg,e]))
 refine⟨⟨h.own.1,?_⟩,λ g hg cur e' fz hc=> ?_⟩
 ·rcases h.own.2 with h' | ⟨g,cap,cur,rfl,hb,hg,rest⟩
  ·exact .inl h'
  ·exact .inr ⟨g,cap,cur,rfl,hb,by rw[key g rfl];exact hg,rest⟩
 ·rw[key g hg]at hc;exact h.nl g hg cur e' fz hc
theorem zua.over {w:World} {e:TypeId} {B:Nat} {v:Value} {q:List Rat} (h:zua w e B v q) {p:Addr} {x:Value} (hp:v.ownBlock=none\/v.ownBlock≠some p.block) (hc:w.cell? p=some x) (hx:∀z,x≠ .int .u32 z) (u:Value):zua (w.setCell p u) e B v q:=by
 obtain⟨xs,h1,h2⟩:=h;refine⟨xs,h1.over hp u,λ j hj=> ?_⟩;obtain⟨a,b,e1,e2,e3,e4,e5⟩:=h2 j hj;exact⟨a,b,e1,e2,e3,⟨e4.1.over hc hx u,e4.2⟩,⟨e5.1.over hc hx u,e5.2⟩⟩
theorem zkb.high {B:Nat} {w0 w:World} (h:zkb B w0 w) {p:Addr} {x:Value} (hp:w0.heap.size<=p.block) (hc:w.cell? p=some x) (hx:∀z,x≠ .int .u32 z) (u:Value):zkb B w0 (w.setCell p u):=by
 refine⟨by simpa [World.setCell]using h.size,λ g h1 h2=> ?_,λ q z hq=> ?_⟩
 ·rw[Below.heap_setCell _ _ _ _ zO];exact h.row g h1 h2
 ·rw[zCO]
  ·exact h.limb q z hq
  ·intro e;have:=h.limb q z hq;rw[<-e,hc]at this;(injection this with this);exact hx _ this
theorem zkb.grow {B:Nat} {w0 w w':World} {v:Value} (h:zkb B w0 w) (hg:w.grownBy w' v.ownBlock) (hn:zrb w v) (hv:∀k,v.ownBlock=some k->w0.heap.size<=k):zkb B w0 w':=by
 have hs:w.heap.size<=w'.heap.size:=hg.size;refine⟨zLT h.size hs,λ g h1 h2=> ?_,λ q z hq=> ?_⟩
 ·rw[hg.block g (zLM h2 h.size) (λ e=>by have:=hv g e.symm;omega)];exact h.row g h1 h2
 ·have hc:=h.limb q z hq;refine hg.cell hc (λ e=> ?_);have h2:=hn q.block e.symm;unfold World.cell? at hc;split at hc
  ·rename_i cur e' fz hh
   split at hc
   ·cases hc
   ·exact h2 cur e' fz hh _ (by have:=Array.mem_of_getElem? hc;simpa using this) _ rfl
  ·cases hc
section
variable {w0 wA w w':World} {bt B b5:Nat} {l:List Nat} {vr vs vl rv:Value} {row:List Rat}
end
structure zpe (w:World) (B:Nat) (vs ve vr:Value) (rs:List Value) (S E:List Rat) (R:List (List Rat)):Prop where
 s:zua w 38 B vs S
 e:zua w 38 B ve E
 ra:zkc w 25 B 1 vr rs.length rs
 rl:rs.length=R.length
 rows:∀ (j:Nat) (h:j<rs.length) (h':j<R.length),zua w 38 B rs[j] R[j]
 ds:vs.ownBlock≠ve.ownBlock
 dr:∀ (j:Nat) (h:j<rs.length),rs[j].ownBlock≠vs.ownBlock/\rs[j].ownBlock≠ve.ownBlock
 dd:∀ (i j:Nat) (hi:i<rs.length) (hj:j<rs.length),i≠j->rs[i].ownBlock≠rs[j].ownBlock
 sz:B<=w.heap.size
section
variable {w w':World} {B:Nat} {vs ve vr:Value} {rs:List Value} {S E:List Rat} {R:List (List Rat)}
theorem zpe.moves (h:zpe w B vs ve vr rs S E R) (hm:zkb B w w'):zpe w' B vs ve vr rs S E R:=
 ⟨h.s.moves hm (zLR _),h.e.moves hm (zLR _),h.ra.moves hm (zLR _),h.rl,λ j h1 h2=>(h.rows j h1 h2).moves hm (zLR _),h.ds,h.dr,h.dd,zLT h.sz hm.size⟩
theorem zpe.bw (h:zpe w B vs ve vr rs S E R) (hb:Below w.heap.size w w'):zpe w' B vs ve vr rs S E R:=h.moves (zkb.bw (B:=B) hb)
theorem zpe.lawC (h:zpe w B vs ve vr rs S E R) (nm:Value):zxj w (.agg #[nm,vs,vr,ve]) ⟨S,E,R⟩:=
 ⟨nm,vs,vr,ve,rfl,h.s.fracs,⟨h.ra.sl,by rw[h.ra.len];exact h.rl,λ j hj=>by
  have hj2:j<rs.length:=by rw[h.rl];exact hj
  exact⟨rs[j],h.ra.cell j hj2,(h.rows j hj2 hj).fracs⟩⟩,h.e.fracs⟩
theorem zua.kindR {v u:Value} {q:List Rat} {xs:List Value} (h:zua w 38 B v q) (h2:zkc w 25 B 1 u xs.length xs):v.ownBlock=none\/v.ownBlock≠u.ownBlock:=by
 obtain⟨ys,y1,y2⟩:=id h;exact y1.kinds h2 zD
theorem zua.kindR' {v u:Value} {q:List Rat} {xs:List Value} (h:zua w 38 B v q) (h2:zkc w 25 B 1 u xs.length xs):u.ownBlock=none\/u.ownBlock≠v.ownBlock:=by
 obtain⟨ys,y1,y2⟩:=id h;exact h2.kinds y1 zD
theorem zpe.push (h:zpe w B vs ve vr rs S E R) {r v':Value} {q:List Rat} (hr:zua w 38 B r q) (h1:r.ownBlock≠vs.ownBlock) (h2:r.ownBlock≠ve.ownBlock) (h3:∀ (j:Nat) (h:j<rs.length),rs[j].ownBlock≠r.ownBlock)
 (hv:zkc w' 25 B 1 v' (rs++ [r]).length (rs++ [r])) (hg:w.grownBy w' vr.ownBlock) (hn:zrb w vr):zpe w' B vs ve v' (rs++ [r]) S E (R++ [q])/\Below B w w':=by
 have hb:Below B w w':=zqd (B:=B) hg h.sz h.ra.block;refine⟨⟨h.s.grown hg hn (h.s.kindR h.ra),h.e.grown hg hn (h.e.kindR h.ra),hv,by simp[h.rl],λ j h4 h5=> ?_,h.ds,λ j h4=> ?_,λ i j hi hj hij=> ?_,zLT h.sz hb.size⟩,hb⟩
 ·rcases zOG j rs.length with hj | hj
  ·(have hj2:j<R.length:=by rw[<-h.rl];exact hj);rw[zAL hj,zAL hj2];exact(h.rows j hj hj2).grown hg hn ((h.rows j hj hj2).kindR h.ra)
  ·(obtain rfl:j=rs.length:=by simp at h4;omega);(have e1:(rs++ [r])[rs.length]'h4=r:=by simp);(have e2:(R++ [q])[rs.length]'h5=q:=by simp[h.rl]);rw[e1,e2];exact hr.grown hg hn (hr.kindR h.ra)
 ·rcases zOG j rs.length with hj | hj
  ·rw[zAL hj];exact h.dr j hj
  ·(obtain rfl:j=rs.length:=by simp at h4;omega);(have e1:(rs++ [r])[rs.length]'h4=r:=by simp);rw[e1];exact⟨h1,h2⟩
 ·have key:∀k (hk:k<(rs++ [r]).length),¬k<rs.length->(rs++ [r])[k]=r/\k=rs.length:=λ k hk hk2=>by
   (obtain rfl:k=rs.length:=by simp at hk;omega);exact⟨by simp,rfl⟩
  by_cases hi2:i<rs.length
  ·by_cases hj2:j<rs.length
   ·rw[zAL hi2,zAL hj2];exact h.dd i j hi2 hj2 hij
   ·rw[(key j hj hj2).1,zAL hi2];exact h3 i hi2
  ·by_cases hj2:j<rs.length
   ·rw[(key i hi hi2).1,zAL hj2];exact λ e=>h3 j hj2 e.symm
   ·exact absurd ((key i hi hi2).2.trans (key j hj hj2).2.symm) hij
theorem zpe.putS (h:zpe w B vs ve vr rs S E R) {i:Nat} (hi:i<S.length) {x y z:Value} {r:Rat} (hf:zia w (.agg #[x,y,z]) r):
 zpe (((w.setCell (ptr vs (i*3)) x).setCell (ptr vs (i*3+1)) y).setCell (ptr vs (i*3+2)) z) B vs ve vr rs (S.set i r) E R/\Below B w (((w.setCell (ptr vs (i*3)) x).setCell (ptr vs (i*3+1)) y).setCell (ptr vs (i*3+2)) z):=by
 obtain⟨p1,hg⟩:=h.s.put hi hf;have hn:=h.s.noLimb;have hb:=zqd (B:=B) hg h.sz h.s.block;exact⟨⟨p1,h.e.grown hg hn (Or.inr λ e=>h.ds e.symm),h.ra.grown hg (h.s.kindR' h.ra),h.rl,λ j h1 h2=>(h.rows j h1 h2).grown hg hn (Or.inr (h.dr j h1).1),h.ds,h.dr,h.dd,zLT h.sz hb.size⟩,hb⟩
theorem zpe.putE (h:zpe w B vs ve vr rs S E R) {i:Nat} (hi:i<E.length) {x y z:Value} {r:Rat} (hf:zia w (.agg #[x,y,z]) r):
 zpe (((w.setCell (ptr ve (i*3)) x).setCell (ptr ve (i*3+1)) y).setCell (ptr ve (i*3+2)) z) B vs ve vr rs S (E.set i r) R/\Below B w (((w.setCell (ptr ve (i*3)) x).setCell (ptr ve (i*3+1)) y).setCell (ptr ve (i*3+2)) z):=by
 obtain⟨p1,hg⟩:=h.e.put hi hf;have hn:=h.e.noLimb;have hb:=zqd (B:=B) hg h.sz h.e.block;exact⟨⟨h.s.grown hg hn (Or.inr h.ds),p1,h.ra.grown hg (h.e.kindR' h.ra),h.rl,λ j h1 h2=>(h.rows j h1 h2).grown hg hn (Or.inr (h.dr j h1).2),h.ds,h.dr,h.dd,zLT h.sz hb.size⟩,hb⟩
theorem zpe.putR (h:zpe w B vs ve vr rs S E R) {i j:Nat} (hi:i<rs.length) (hi2:i<R.length) (hj:j<R[i].length) {x y z:Value} {r:Rat} (hf:zia w (.agg #[x,y,z]) r):
 zpe (((w.setCell (ptr rs[i] (j*3)) x).setCell (ptr rs[i] (j*3+1)) y).setCell (ptr rs[i] (j*3+2)) z) B vs ve vr rs S E (R.set i (R[i].set j r))/\Below B w (((w.setCell (ptr rs[i] (j*3)) x).setCell (ptr rs[i] (j*3+1)) y).setCell (ptr rs[i] (j*3+2)) z):=by
 have hrow:=h.rows i hi hi2;obtain⟨p1,hg⟩:=hrow.put hj hf;have hn:=hrow.noLimb;have hb:=zqd (B:=B) hg h.sz hrow.block;refine⟨⟨h.s.grown hg hn (Or.inr λ e=>(h.dr i hi).1 e.symm),h.e.grown hg hn (Or.inr λ e=>(h.dr i hi).2 e.symm),h.ra.grown hg (hrow.kindR' h.ra),by rw[zGS];exact h.rl,λ k h1 h2=> ?_,h.ds,h.dr,h.dd,zLT h.sz hb.size⟩,hb⟩;by_cases e:i=k
 ·subst e;rw[zSF];exact p1
 ·rw[zTN e];exact(h.rows k h1 (by rw[zGS]at h2;exact h2)).grown hg hn (Or.inr λ e2=>h.dd k i h1 hi (λ e3=>e e3.symm) e2)
theorem zkc.lower {B' n size:Nat} {e:TypeId} {v:Value} {xs:List Value} (h1:zkc w e B size v n xs) (hB:B'<=B):zkc w e B' size v n xs:=by
 refine⟨⟨h1.own.1,?_⟩,h1.nl⟩;rcases h1.own.2 with h | ⟨g,cap,cur,rfl,hb,rest⟩
 ·exact .inl h
 ·exact .inr ⟨g,cap,cur,rfl,zO,rest⟩
theorem zpe.mono {B':Nat} (h:zpe w B vs ve vr rs S E R) (hB:B'<=B):zpe w B' vs ve vr rs S E R:=
 ⟨h.s.mono hB,h.e.mono hB,h.ra.lower hB,h.rl,λ j h1 h2=>(h.rows j h1 h2).mono hB,h.ds,h.dr,h.dd,zLT hB h.sz⟩
theorem zua.neB {v:Value} {q:List Rat} {e:TypeId} {b:Nat} {s:ByteArray} (h:zua w e B v q) (hq:0<q.length) (hc:w.cell? ⟨b,0,none⟩=some (.string s)):v.ownBlock≠some b:=by
 obtain⟨g,h1,_,_,_,hp⟩:=h.blk hq;rw[h1];intro e;injection e with e
 subst e;obtain⟨x,y,e1,_⟩:=h.fracs.at' 0 hq;rw[Nat.zero_mul,hp,hc]at e1;cases e1
theorem zkc.neB {v:Value} {xs:List Value} {e:TypeId} {b:Nat} {s:ByteArray} (h:zkc w e B 1 v xs.length xs) (hq:0<xs.length) (hx:∀j (hj:j<xs.length),zvc xs[j]) (hc:w.cell? ⟨b,0,none⟩=some (.string s)):v.ownBlock≠some b:=by
 obtain⟨g,h1,_,_,_,hp⟩:=h.blk hq;rw[h1];intro e;injection e with e
 subst e;have e1:=h.cell 0 hq;rw[hp,hc]at e1;obtain⟨a,l,k,h2,_⟩:=hx 0 hq;injection e1 with e1
 rw[h2]at e1;cases e1
structure zpe.Pos (vr:Value) (rs:List Value) (S E:List Rat) (R:List (List Rat)):Prop where
 s:0<S.length
 e:0<E.length
 r:∀ (j:Nat) (h:j<R.length),0<R[j].length
 v:rs= []->vr.ownBlock=none
theorem zpe.over (h:zpe w B vs ve vr rs S E R) (hp:zpe.Pos vr rs S E R) {b:Nat} {s:ByteArray} (hc:w.cell? ⟨b,0,none⟩=some (.string s)) {p:Addr} {x:Value} (hpb:p.block=b) (hx:w.cell? p=some x) (hn:∀z,x≠ .int .u32 z) (u:Value):
 zpe (w.setCell p u) B vs ve vr rs S E R:=by
 have n1:vs.ownBlock≠some p.block:=by rw[hpb];exact h.s.neB hp.s hc
 have n2:ve.ownBlock≠some p.block:=by rw[hpb];exact h.e.neB hp.e hc
 have n3:vr.ownBlock=none\/vr.ownBlock≠some p.block:=by
  rw[hpb];rcases Nat.eq_zero_or_pos rs.length with h0 | h0
  ·exact Or.inl (hp.v (List.length_eq_zero_iff.1 h0))
  ·exact Or.inr (h.ra.neB h0 (λ j hj=>(h.rows j hj (by rw[<-h.rl];exact hj)).sl) hc)
 exact⟨h.s.over (Or.inr n1) hx hn u,h.e.over (Or.inr n2) hx hn u,h.ra.over n3 u,h.rl,λ j h1 h2=>(h.rows j h1 h2).over (Or.inr (by rw[hpb];exact(h.rows j h1 h2).neB (hp.r j h2) hc)) hx hn u,h.ds,h.dr,h.dd,by
  have:=h.sz;simpa [World.setCell]using this⟩
end
section
variable {w:World} {b:Nat} {v0 v1 v2 v3:Value}
theorem C4.set (h:C4 w b v0 v1 v2 v3) (u0 u1 u2 u3:Value):C4 ((((w.setCell ⟨b,0,none⟩ u0).setCell ⟨b,1,none⟩ u1).setCell ⟨b,2,none⟩ u2).setCell ⟨b,3,none⟩ u3) b u0 u1 u2 u3:=by
 obtain⟨lt,c0,c1,c2,c3,f0,f1,f2,f3⟩:=h;refine⟨by simpa [World.setCell]using lt,?_,?_,?_,?_,?_,?_,?_,?_⟩<;>go_simp
theorem C4.set2 (h:C4 w b v0 v1 v2 v3) (u:Value):C4 (w.setCell ⟨b,2,none⟩ u) b v0 v1 u v3:=by
 obtain⟨lt,c0,c1,c2,c3,f0,f1,f2,f3⟩:=h;refine⟨by simpa [World.setCell]using lt,?_,?_,?_,?_,?_,?_,?_,?_⟩<;>go_simp
theorem C4.other (h:C4 w b v0 v1 v2 v3) {p:Addr} (hp:p.block≠b) (u:Value):C4 (w.setCell p u) b v0 v1 v2 v3:=by
 have key:∀k,p≠⟨b,k,none⟩:=λ k e=>hp (by rw[e])
 have key2:∀k,(⟨b,k,none⟩:Addr)≠p:=λ k e=>hp (by rw[<-e])
 obtain⟨lt,c0,c1,c2,c3,f0,f1,f2,f3⟩:=h;refine⟨by simpa [World.setCell]using lt,?_,?_,?_,?_,?_,?_,?_,?_⟩
 all_goals first
  |(rw[zCO _ _ _ _ (key2 _)];assumption)
  |(rw[zCO _ _ _ _ (key _)];assumption)
  |(rw[World.frozen?_setCell];assumption)
theorem C4.grown {w':World} {row:Option Nat} (h:C4 w b v0 v1 v2 v3) (hg:w.grownBy w' row) (hne:row≠some b):C4 w' b v0 v1 v2 v3:=by
 have hb:=hg.block b h.lt (λ e=>hne e.symm);obtain⟨lt,c0,c1,c2,c3,f0,f1,f2,f3⟩:=h;have hc:∀k,w'.cell? ⟨b,k,none⟩=w.cell? ⟨b,k,none⟩:=λ k=>by unfold World.cell?;rw[hb]
 have hf:∀k,w'.frozen? ⟨b,k,none⟩=w.frozen? ⟨b,k,none⟩:=λ k=>by unfold World.frozen?;rw[hb]
 exact⟨zLM lt hg.size,by rw[hc];exact c0,by rw[hc];exact c1,by rw[hc];exact c2,by rw[hc];exact c3,by rw[hf];exact f0,by rw[hf];exact f1,by rw[hf];exact f2,by rw[hf];exact f3⟩
theorem zcq {w1 w2:World} {B1:Nat} {e1 e2:TypeId} {v v':Value} {q q':List Rat} (h:zua w1 e1 B1 v q) (h':zua w2 e2 w1.heap.size v' q') (hq':0<q'.length):v'.ownBlock≠v.ownBlock:=by
 obtain⟨g,h1,_,h2,_,_⟩:=h'.blk hq';rw[h1];intro e;have:=h.block g e.symm;omega
theorem zjb {w0 w:World} {B b:Nat} (h:Below B w0 w) (hb:B<=b) (u0 u1 u2 u3:Value):Below B w0 ((((w.setCell ⟨b,0,none⟩ u0).setCell ⟨b,1,none⟩ u1).setCell ⟨b,2,none⟩ u2).setCell ⟨b,3,none⟩ u3):=
 (zga h hb u0 u1 u2).setCell (p:=⟨b,3,none⟩) hb u3
theorem zpe.set4 {B:Nat} {vs ve vr:Value} {rs:List Value} {S E:List Rat} {R:List (List Rat)} {s:ByteArray} (h:zpe w B vs ve vr rs S E R) (hp:zpe.Pos vr rs S E R) (hc:C4 w b (.string s) v1 v2 v3) (n1:∀z,v1≠ .int .u32 z) (n2:∀z,v2≠ .int .u32 z) (n3:∀z,v3≠ .int .u32 z) (s':ByteArray) (u1 u2 u3:Value):
 zpe ((((w.setCell ⟨b,0,none⟩ (.string s')).setCell ⟨b,1,none⟩ u1).setCell ⟨b,2,none⟩ u2).setCell ⟨b,3,none⟩ u3) B vs ve vr rs S E R:=by
 obtain⟨lt,c0,c1,c2,c3,f0,f1,f2,f3⟩:=hc;have k1:=h.over hp c0 (p:=⟨b,0,none⟩) rfl c0 zZ (.string s');have k2:=k1.over hp (b:=b) (s:=s') (by go_simp) (p:=⟨b,1,none⟩) rfl (x:=v1) (by go_simp) n1 u1;have k3:=k2.over hp (b:=b) (s:=s') (by go_simp) (p:=⟨b,2,none⟩) rfl (x:=v2) (by go_simp) n2 u2;exact k3.over hp (b:=b) (s:=s') (by go_simp) (p:=⟨b,3,none⟩) rfl (x:=v3) (by go_simp) n3 u3
end
end Go.Proofs.YtlpdkbmmbdfoiaaGreat
