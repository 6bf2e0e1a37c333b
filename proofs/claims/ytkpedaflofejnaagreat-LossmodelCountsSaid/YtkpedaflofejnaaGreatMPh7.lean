/- Lemmas. -/
import Derived.Test.YtkpedaflofejnaaGreatMLu4
set_option linter.unusedVariables false
set_option linter.unusedSimpArgs false
namespace Go.Proofs.YtkpedaflofejnaaGreat
theorem foldl_shift (l:List Rat) (s x:Rat):l.foldl (· + ·) (s+x)=l.foldl (· + ·) s+x:=by
 induction l generalizing s with
 | nil=>rfl
 | cons y l ih=>
   simp only[List.foldl_cons];rw[show s+x+y=s+y+x by grind,ih]
section
variable {c:CQ} {of:List Int} {share:List Rat}
end
theorem lsum_cons (x:Rat) (l:List Rat):zof (x::l)=zof l+x:=by
 unfold zof;rw[List.foldl_cons,foldl_shift]
theorem wts_all3 {l:List Rat} {K:Nat} (h:∀q∈l,wt q<=K):wts l<=l.length*K:=by
 induction l with
 | nil=>simp[wts]
 | cons x l ih=>
   have h1:=h x (by simp);(have h2:=ih λ q hq=>h q (by simp[hq]));rw[zpf,List.length_cons,Nat.succ_mul];omega
section
variable {c:RC}
end
end Go.Proofs.YtkpedaflofejnaaGreat
namespace Go.Proofs.YtkpedaflofejnaaGreat
open Go.RowKit
theorem zdh.wt {q:Rat} (h:zdh q):Go.Proofs.YtkpedaflofejnaaGreat.wt q<=64:=by
 unfold Go.Proofs.YtkpedaflofejnaaGreat.wt;have h1:=h.2.1;have h2:=h.2.2;split
 ·omega
 ·split<;>omega
theorem lim_sum {l m:List Rat} (hs:l.Sublist m) (hl:∀q∈m,zdh q) (hn:m.length<=40):fits (zof l):=
 lsum_fits hs (λ q hq=>(hl q hq).1) (by
  have:=wts_all3 (l:=m) (K:=64) λ q hq=>(hl q hq).wt
  omega)
theorem fsum_lim (va:Value) (l:List Rat) (w:World) (ha:zpa w va l) (hl:∀q∈l,zdh q) (hn:l.length<=40):Calls Tryz.prog 77 #[va] w (RF0 w (zof l)):=by
 have h:=sum_frac va (l.map RF.of) w ha.raw (λ x hx=>by obtain⟨y,hy,rfl⟩:=List.mem_map.1 hx;exact RF.of_ok (hl y hy).fits) (λ k hk=>by
  rw[<-List.map_take,zck];exact lim_sum (List.take_sublist _ _) hl hn)
 rw[zck]at h;exact h
set_option maxRecDepth 100000 in
set_option maxHeartbeats 6400000 in
theorem zwi (va:Value) (l:LQ) (w:World) (ha:LawC w va l) (hl:LawP l):Calls Tryz.prog 40 #[va] w (λ e w'=>e= .returned (.bool true)/\Below w.heap.size w w'):=by
 obtain⟨nm,sv,rv,ev,rfl,hs,hr,he⟩:=id ha;obtain⟨ra,rn,rk,rfl,_⟩:=id hr.sl;obtain⟨sa,sn,sk,rfl,_⟩:=id hs.sl;obtain⟨ea,en,ek,rfl,_⟩:=id he.sl;have hba:=zba w (.cells #[nm, .slice sa sn sk, .slice ra rn rk, .slice ea en ek] 30);have HC:=zH (C4.new w 30 nm (.slice sa sn sk) (.slice ra rn rk) (.slice ea en ek));have HA:=zH (ha.bw hba);have HS:=zH (hs.bw hba);have HR:=zH (hr.bw hba);have HE:=zH (he.bw hba);have HBW:=zH hba;have hsn:sn=l.start.length:=hs.len;have hen:en=l.start.length:=he.len.trans hl.el;have hrn:rn=l.start.length:=hr.len.trans hl.rl;obtain⟨n,hnn⟩:∃n,l.start.length=n:=⟨_,rfl⟩;have HN:=zH hnn;rw[hnn]at hen hsn hrn;have n1:1<=n:=by rw[<-hnn];exact hl.n1
 have n4:n<=4:=by rw[<-hnn];exact hl.n4
 obtain rfl:en=n:=hen;obtain rfl:sn=en:=hsn;obtain rfl:rn=sn:=hrn;have HL:=zH hl;have srt:=hr.sl;have sxt:=he.sl;have sst:=hs.sl
 have hin:(decide ((1:Int)<=(rn:Nat))&&decide (((rn:Nat):Int)<=4))=true:=by
  rw[zDT (show(1:Int)<=(rn:Nat)by omega),zDT (show((rn:Nat):Int)<=4 by omega)];rfl
 have HIN:=zH hin;clear hs hr he ha hl hba hnn hin;go_enter Tryz.func40,Tryz.ntmps40;go_upto_region 1 with fail;obtain⟨b,hb⟩:∃b,w.heap.size=b:=⟨_,rfl⟩;rw[hb]at HC |-
 clear hb;generalize w.alloc (.cells #[nm, .slice sa rn sk, .slice ra rn rk, .slice ea rn ek] 30)=W1 at *
 obtain⟨_,c0,c1,c2,c3,_,_,_,_⟩:=HC.o
 go_upto_region 4 with(first
  |(go_at_call 96;(with_reducible refine(fin_any _ _ _ _).mono ?_);rw[HIN.o];rintro e4 w4 ⟨rfl,hw4⟩;rw[hw4];clear hw4)
  |(go_at_call 97;(with_reducible refine(fall_ok _ l.start W1 HS.o HL.o.st (by have:=HL.o.n4;omega)).mono ?_);rintro e5 w5 ⟨rfl,hb5⟩;have HB5:=zH hb5;clear c0 c1 c2 c3;obtain⟨_,c0,c1,c2,c3,_,_,_,_⟩:=HC.o.bS hb5;clear hb5)
  |(go_at_call 97;(with_reducible refine(fall_ok _ l.exit w5 (HE.o.bw HB5.o) HL.o.ex (by have:=HL.o.n4;have:=HL.o.el;omega)).mono ?_);rintro e6 w6 ⟨rfl,hb6⟩;have HB6:=zH (zaa HB5.o hb6);clear c0 c1 c2 c3;obtain⟨_,c0,c1,c2,c3,_,_,_,_⟩:=HC.o.bS HB6.o;clear hb6))
 go_wp2_with fail;clear c0 c1 c2 c3;go_loopg [47] (rn) (λ g u47 wr=>∃ (k:Nat),k<=rn/\g=rn-k/\u47= .int .i64 k/\Below W1.heap.size W1 wr);case atStart=>exact⟨0,zZL _,rfl,rfl,HB6.o⟩
 case round=>
  obtain⟨k,hk,hg,rfl,hbr⟩:=hrel;obtain⟨wb,hwb⟩:∃wb,wb=wr:=⟨_,rfl⟩;subst hwb;have HG:=zH hg;have HBR:=zH hbr;clear hg hbr;by_cases hkl:k<rn
  ·(have hir:k<l.rates.length:=by rw[HL.o.rl,HN.o];exact hkl);obtain⟨rw1,hrv,hrow⟩:=HR.o.at' k hir;obtain⟨rl1,rl2,rl3⟩:=HL.o.row k hir;obtain⟨ua,un,uk,rfl,_⟩:=id hrow.sl;have srow:=hrow.sl;(have hun:un=rn:=by have h:=hrow.len;rw[rl1,HN.o]at h;exact h);subst hun;(have hkr:k<(l.rates[k]'hir).length:=by rw[rl1,HN.o];exact hkl);obtain⟨ts,as1,ls1,ks1,as2,ls2,ks2,g1,g2,g3,hfs⟩:=(hrow.bw HBR.o).cellsAt (k:=k) hkr;rw[rl3]at hfs;have HROW:=zH hrow;have HRL:=zH rl2;have HRLN:zI ((l.rates[k]'hir).length<=1000):=zH (by rw[rl1,HN.o];omega);have HFS:=zH hfs;have hri:=zca HBR.o hrv;have S0:=zH (zAI g1 (zAI g2 g3));have i1:(0:Int)<=(k:Int):=zO;have i2:(k:Int)<(un:Nat):=zO;clear hrv hrow rl1 rl2 rl3 hfs g1 g2 g3
   go_wp2_with (first
    |(go_at_call 97;(with_reducible refine(fall_ok _ _ _ (HROW.o.bw HBR.o) HRL.o HRLN.o).mono ?_);rintro e5 w5 ⟨rfl,hb5⟩;have HB5:=zH hb5;have g1:=zca hb5 S0.o.1;have g2:=zca hb5 S0.o.2.1;have g3:=zca hb5 S0.o.2.2;clear hb5)
    |(go_at_call 99;(with_reducible refine(zwg _ 0 _ (HFS.o.bw HB5.o)).mono ?_);rintro e7 w7 ⟨rfl,hb7⟩;have HB7:=zH (zaa HBR.o (zaa HB5.o hb7));clear hb7))
   go_roundg (un- (k+1));(case measure=>(have:=HG.o;omega));case rel=>exact⟨k+1,zO,rfl,by go_num,HB7.o⟩
  ·have HSUM:zI (zof l.start=1):=zH HL.o.sum;have HNL:zI (l.start.length<=40):=zH (by have:=HL.o.n4;omega);obtain rfl:k=rn:=zO;obtain⟨_,c0,c1,c2,c3,_,_,_,_⟩:=HC.o.bS HBR.o
   go_upto_region 11 with(first
    |(go_at_call 77;(with_reducible refine(fsum_lim _ l.start _ (HS.o.bw HBR.o) HL.o.st HNL.o).mono ?_);rw[HSUM.o];rintro e8 w8 ⟨v8,rfl,hv8,hb8⟩;obtain⟨t8,a81,l81,k81,a82,l82,k82,rfl⟩:=hv8.iF;have hba:=zba w8 (.cells #[.bool t8, .slice a81 l81 k81, .slice a82 l82 k82] 53);have hbb:=zaa hb8 hba;have HC8:=zH (C3.new w8 53 (.bool t8) (.slice a81 l81 k81) (.slice a82 l82 k82));have HF8:=zH (hv8.bw hba);have HB8:=zH (zaa HBR.o hbb);clear hv8 hb8 hba hbb c0 c1 c2 c3))
   obtain⟨b8,hb8⟩:∃b,w8.heap.size=b:=⟨_,rfl⟩;(rw[hb8]at HC8 |-);clear hb8;generalize w8.alloc (.cells #[.bool t8, .slice a81 l81 k81, .slice a82 l82 k82] 53)=W8 at *
   go_upto_region 12 with(first
    |(go_at_call 100;(with_reducible refine(make_11 _).mono ?_);rintro e9 w9 ⟨v9,rfl,hv9,hb9⟩;obtain⟨t9,a91,l91,k91,a92,l92,k92,rfl⟩:=hv9.iF;have hba:=zba w9 (.cells #[.bool t9, .slice a91 l91 k91, .slice a92 l92 k92] 53);have hbb:=zaa hb9 hba;have HC9:=zH (C3.new w9 53 (.bool t9) (.slice a91 l91 k91) (.slice a92 l92 k92));have HF9:=zH (hv9.bw hba);replace HC8:=zH (HC8.o.bS hbb);replace HF8:=zH (HF8.o.bw hbb);replace HB8:=zH (zaa HB8.o hbb);clear hv9 hb9 hba hbb))
   obtain⟨b9,hb9⟩:∃b,w9.heap.size=b:=⟨_,rfl⟩;(rw[hb9]at HC9 |-);clear hb9;generalize w9.alloc (.cells #[.bool t9, .slice a91 l91 k91, .slice a92 l92 k92] 53)=W9 at *
   obtain⟨_,d0,d1,d2,_,_,_⟩:=HC8.o;obtain⟨_,p0,p1,p2,_,_,_⟩:=HC9.o;obtain⟨_,c0,c1,c2,c3,_,_,_,_⟩:=HC.o.bS HB8.o
   go_wp2_with (first
    |(go_at_call 78;(with_reducible refine(cmp_can _ _ 1 1 _ HF8.o HF9.o zD zD).mono ?_);rw[(zhe 1 1).2 rfl];rintro e10 w10 ⟨rfl,hb10⟩;have HB10:=zH (zaa HB8.o hb10);clear c0 c1 c2 c3 d0 d1 d2 p0 p1 p2;obtain⟨_,c0,c1,c2,c3,_,_,_,_⟩:=HC.o.bS HB10.o;clear hb10)
    |(go_at_call 101;(with_reducible refine(fends_ok _ l _ (HA.o.bw HB10.o) HL.o).mono ?_);rintro e11 w11 ⟨rfl,hb11⟩;have HB11:=zH (zaa HB10.o hb11);clear hb11))
   go_ret;exact⟨rfl,HBW.o.trans (HB11.o.mono HBW.o.size)⟩
def rateP (s:Bool) (n d:Nat):Prop:=okN n d/\0<fq s n d/\zsa (fq s n d).num.natAbs<=32/\zsa (fq s n d).den<=32
set_option maxHeartbeats 800000
structure zkb (w:World) (b:Nat) (l:List Nat) (at':Nat):Prop where
 lt:b<w.heap.size
 ex:∃v,w.cell? ⟨b,0,none⟩=some v/\zta w v (l.map λ x:Nat=>Value.int .u8 (x:Nat))
 c1:w.cell? ⟨b,1,none⟩=some (.int .i64 (at':Nat))
 f1:w.frozen? ⟨b,1,none⟩=false
 len:l.length<=400
 le:at'<=400
 byte:∀x∈l,x<256
def zpo (b:Nat) (w w':World):Prop:=(∃k,w'=w.drewN k)\/∃k k' a,w'=((w.drewN k).setCell ⟨b,1,none⟩ (.int .i64 a)).drewN k'
def RNext (w0:World) (b:Nat) (l:List Nat) (n:Nat) (e:Ending) (w:World):Prop:=∃x a:Nat,e= .returned (.int .i64 (x:Nat))/\x<n/\zkb w b l a/\zpo b w0 w
theorem zkb.drawn {w:World} {b:Nat} {l:List Nat} {a:Nat} (h:zkb w b l a) (k:Nat):zkb (w.drewN k) b l a:=by
 obtain⟨lt,⟨v,e1,e2⟩,c1,f1,h1,h2,h3⟩:=h;have hb:=zia (B:=w.heap.size) w k;exact⟨zLM lt hb.size,⟨v,zca hb e1,e2.bw hb⟩,zca hb c1,by rw[hb.frozen lt];exact f1,h1,h2,h3⟩
theorem next_zero (b:Nat) (l:List Nat) (a n:Nat) (w:World) (h:zkb w b l a) (hn:1<=n) (hn2:n<=65536) (hz:l.length<=a\/n<2):
 Calls Tryz.prog 31 #[.pointer (some ⟨b,0,none⟩), .int .i64 n] w (RNext w b l n):=by
 obtain⟨v,e1,e2⟩:=h.ex;have c1:=h.c1;have f1:=h.f1;have sv:=zta.sl e2;have lv:slen v=l.length:=by have:=zta.len e2;simpa using this
 have hll:=h.len;have hle:=h.le;by_cases h1:l.length<=a
 ·have hd:decide (((l.length:Nat):Int)<=(a:Nat))=true:=zDT zO;go_enter Tryz.func31,Tryz.ntmps31;go_wp2;go_quiet (fail);go_wp2;go_ret;exact⟨0,a,rfl,hn,h.drawn _,Or.inl ⟨_,rfl⟩⟩
 ·have hd:decide (((l.length:Nat):Int)<=(a:Nat))=false:=zDF zO;have h2:n<2:=hz.resolve_left h1;have hd2:decide ((n:Int)<2)=true:=zDT zO;go_enter Tryz.func31,Tryz.ntmps31;go_wp2;go_quiet (fail);go_wp2;go_ret;exact⟨0,a,rfl,hn,h.drawn _,Or.inl ⟨_,rfl⟩⟩
theorem cell_tick {w:World} {b:Nat} {a0:Int} {p:Addr} {x:Value} (hc:w.cell? ⟨b,1,none⟩=some (.int .i64 a0)) (hp:w.cell? p=some x) (hx:∀z,x≠ .int .i64 z) (u:Value):(w.setCell ⟨b,1,none⟩ u).cell? p=some x:=by
 rw[zCO]
 ·exact hp
 ·intro e;rw[<-e,hc]at hp;injection hp with hp
  exact hx _ hp.symm
theorem zkb.tick {w:World} {b:Nat} {l:List Nat} {a:Nat} (h:zkb w b l a) (a':Nat) (ha:a'<=400):zkb (w.setCell ⟨b,1,none⟩ (.int .i64 (a':Nat))) b l a':=by
 obtain⟨lt,⟨v,e1,e2⟩,c1,f1,h1,h2,h3⟩:=h;refine⟨by simpa [World.setCell]using lt,⟨v,?_,e2.sl,e2.len,λ j hj=>cell_tick c1 (e2.cell j hj) zZ _⟩,?_,?_,h1,ha,h3⟩
 ·rw[zCO _ _ _ _ (by simp)];exact e1
 ·exact World.cell?_setCell_same _ _ _ c1
 ·go_simp
theorem next_more (b:Nat) (l:List Nat) (a n:Nat) (w:World) (h:zkb w b l a) (hn2:n<=65536) (h1:a<l.length) (h2:2<=n):
 Calls Tryz.prog 31 #[.pointer (some ⟨b,0,none⟩), .int .i64 n] w (RNext w b l n):=by
 obtain⟨v,e1,e2⟩:=h.ex;have c1:=h.c1;have f1:=h.f1;have sv:=zta.sl e2;have lv:slen v=l.length:=by have:=zta.len e2;simpa using this
 have hll:=h.len;have hd:decide (((l.length:Nat):Int)<=(a:Nat))=false:=zDF zO;have hd2:decide ((n:Int)<2)=false:=zDF zO;have HT:=zH h;go_enter Tryz.func31,Tryz.ntmps31;go_wp2;go_quiet (fail);have hT1:=HT.o.drawn nq;obtain⟨v2,e11,e12⟩:=hT1.ex;have c2:=hT1.c1;have f2:=hT1.f1;clear hd hd2 c1 f1;go_wp2
 have hT2:zkb ((w.drewN nq).setCell ⟨b,1,none⟩ (.int .i64 ((a:Int)+1))) b l (a+1):=by
  have:=hT1.tick (a+1) zO;rwa[show(((a+1:Nat)):Int)=(a:Int)+1 from zO]at this
 obtain⟨v3,e13,e14⟩:=hT2.ex;have c3:=hT2.c1;have s3:=zta.sl e14;have l3:slen v3=l.length:=by have:=zta.len e14;simpa using this
 have hx:=e14.cell a (by simpa using h1);rw[List.getElem_map]at hx;have hxb:=h.byte l[a] (zGM h1);have HTK:zI (∀k,zpo b w (((w.drewN nq).setCell ⟨b,1,none⟩ (.int .i64 ((a:Int)+1))).drewN k)):=zH (λ k=>Or.inr ⟨_,_,_,rfl⟩);generalize l[a]'h1=x at *
 generalize (w.drewN nq).setCell ⟨b,1,none⟩ (.int .i64 ((a:Int)+1))=W2 at *
 have i1:IntKind.i64.wrap ((((a+1:Nat)):Int)-1)=(a:Int):=by rw[IntWalk.i64_in _ zO];omega
 have i2:(0:Int)<=(a:Int):=zO;have i3:(a:Int)<(l.length:Nat):=zO;have i4:Int.tmod (x:Int) (n:Int)=((x%n:Nat):Int):=by rw[Int.tmod_eq_emod_of_nonneg zO];omega
 go_quiet (fail);go_wp2;go_ret;exact⟨x%n,a+1,by first | rfl | (congr 2),zML2 _ zO,hT2.drawn _,HTK.o _⟩
theorem next_any (b:Nat) (l:List Nat) (a n:Nat) (w:World) (h:zkb w b l a) (hn:1<=n) (hn2:n<=65536):
 Calls Tryz.prog 31 #[.pointer (some ⟨b,0,none⟩), .int .i64 n] w (RNext w b l n):=by
 rcases zOG a l.length with h1 | h1
 ·rcases zOG n 2 with h2 | h2
  ·exact next_zero b l a n w h hn hn2 (Or.inr h2)
  ·exact next_more b l a n w h hn2 h1 h2
 ·exact next_zero b l a n w h hn hn2 (Or.inl h1)
theorem zpo.cell {b:Nat} {w w':World} (h:zpo b w w') {a0:Int} (hc:w.cell? ⟨b,1,none⟩=some (.int .i64 a0)) {p:Addr} {x:Value} (hp:w.cell? p=some x) (hx:∀z,x≠ .int .i64 z):w'.cell? p=some x:=by
 rcases h with⟨k,rfl⟩ | ⟨k,k',a,rfl⟩
 ·exact zca (zia w k) hp
 ·refine zca (zia _ k') ?_;exact cell_tick (zca (zia w k) hc) (zca (zia w k) hp) hx _
theorem zpo.size {b:Nat} {w w':World} (h:zpo b w w'):w.heap.size<=w'.heap.size:=by
 rcases h with⟨k,rfl⟩ | ⟨k,k',a,rfl⟩
 ·exact(zia (B:=w.heap.size) w k).size
 ·have h1:=(zia (B:=w.heap.size) w k).size;have h2:=(zia (B:=w.heap.size) ((w.drewN k).setCell ⟨b,1,none⟩ (.int .i64 a)) k').size;have h3:((w.drewN k).setCell ⟨b,1,none⟩ (.int .i64 a)).heap.size=(w.drewN k).heap.size:=by simp[World.setCell]
  omega
theorem zpo.bw {b B:Nat} {w w':World} (h:zpo b w w') (hB:B<=b) (hs:B<=w.heap.size):Below B w w':=by
 rcases h with⟨k,rfl⟩ | ⟨k,k',a,rfl⟩
 ·exact zia w k
 ·exact((zia w k).setCell (p:=⟨b,1,none⟩) hB _).trans (zia _ k')
def bytes (l:List Nat):List Value:=l.map λ x:Nat=>Value.int .u8 (x:Nat)
theorem zta.tk {w:World} {v:Value} {l:List Value} (h:zta w v l) (n:Nat) (hn:n<=l.length):zta w (tk v n) (l.take n):=by
 have e:(l.take n).length=n:=by rw[zTK];omega
 have h1:=h.sl.le;have h2:=h.len;refine⟨h.sl.tk zO,by rw[e];exact h.sl.slen_tk n,λ j hj=> ?_⟩;rw[ptr_tk,List.getElem_take];exact h.cell j zO
def RTape (w0:World) (l:List Nat) (e:Ending) (w:World):Prop:=∃b,e= .returned (.pointer (some ⟨b,0,none⟩))/\w0.heap.size<=b/\zkb w b l 0/\Below w0.heap.size w0 w
theorem tape_new (w w1:World) (v:Value) (l:List Nat) (t e:TypeId) (hl:l.length<=400) (hb:∀x∈l,x<256) (h:zib w1 e w.heap.size v (bytes l)) (hbel:Below w.heap.size w w1):
 RTape w l (.returned (.pointer (some ⟨w1.heap.size,0,none⟩))) (w1.alloc (.cells #[v, .int .i64 0] t)):=by
 refine⟨_,rfl,hbel.size,⟨by simp,⟨v,by simp,?_⟩,by simp,by simp,hl,zO,hb⟩,hbel.alloc hbel.size _⟩;exact⟨h.sl,by rw[h.len];rfl,λ j hj=>(h.alloc _).cell j hj⟩
theorem append_u8 {P:Program} (t e:TypeId) (i:TypeInfo) (ht:P.underlying t=some (.slice e)) (hi:P.info? e=some i) (hz:i.zero=some (.int .u8 0))
 (hsize:i.size=1) (hby:i.bytes=1) (w:World) {ops:Array Oper} {rest:List Oper} {o:Oper} {a:Act} {Q:Exit->Act->World->Prop} (hgd:o.guard=none) (s x:Operand)
 (ho:o.op= .call { callee:= .builtin .append,args:=#[s,x],argTypes:=#[t,t] })
 (hs:a.eval s= .slice none 0 0) (xv:Value) (hxe:a.eval x=xv) (l:List Nat) (hx:zta w xv (bytes l)) (hb:l.length<=400)
 (h:∀v' w',zib w' e w.heap.size v' (bytes l)->Below w.heap.size w w'->wpList P ops Q rest (a.put o.dst v') w'):wpList P ops Q (o::rest) a w:=by
 have hl:(bytes l).length=l.length:=by simp[bytes]
 refine zmb w hgd s x t ho w.heap.size e i (.int .u8 0) 1 ht hi hz hsize hby rfl _ [] hs (zib.nil _ _ _) xv hxe hx.sl (bytes l) hx.len
  (λ j hj=>hx.cell j hj) (λ u hu=>by obtain⟨x,_,rfl⟩:=List.mem_map.1 hu;rfl)
  (by simp[maxLen,hl];omega) (by simp[hl];omega) (zLR _) ?_
 intro v' w' h2 _ h4;rw[List.nil_append]at h2;exact h v' w' h2 h4
set_option maxHeartbeats 1600000 in
theorem new_any (v:Value) (l:List Nat) (w:World) (h:zta w v (bytes l)) (hb:∀x∈l,x<256):
 Calls Tryz.prog 30 #[v] w (RTape w (l.take 400)):=by
 obtain⟨i0,hi,hz0,hz1,hz2⟩:=info_parts Tryz.infoU8;have hA:=append_u8 (P:=Tryz.prog) 43 5 i0 Tryz.underlying43 hi hz0 hz1 hz2;clear hi hz0 hz1 hz2;have sv:=h.sl;have lv:slen v=l.length:=by rw[h.len,bytes,zMP]
 have hle:=sv.le;rw[lv]at hle;by_cases hd:400<l.length
 ·have hd1:decide ((400:Int)<(l.length:Nat))=true:=zDT zO;have hcap:(400:Int)<=scap v:=zO;have ht2:zta w (tk v 400) (bytes (l.take 400)):=by have:=h.tk 400 (by simp[bytes];omega);simpa [bytes,List.map_take]using this
  go_enter Tryz.func30,Tryz.ntmps30;go_wp2_with (at_builtin;refine hA w rfl _ _ rfl rfl _ rfl (l.take 400) ht2 (by simp;omega) ?_;intro v' w1 hown hbel;obtain⟨an,nn,cn,rfl,_⟩:=hown.sl);go_ret;exact tape_new w w1 _ _ _ _ (by simp;omega) (λ x hx=>hb x (List.mem_of_mem_take hx)) hown hbel
 ·have hd1:decide ((400:Int)<(l.length:Nat))=false:=zDF zO;rw[zTL zO];go_enter Tryz.func30,Tryz.ntmps30;go_wp2_with (at_builtin;refine hA w rfl _ _ rfl rfl _ rfl l h zO ?_;intro v' w1 hown hbel;obtain⟨an,nn,cn,rfl,_⟩:=hown.sl);go_ret;exact tape_new w w1 _ _ _ _ zO hb hown hbel
theorem zkb.bw {w w':World} {l:List Nat} {b a:Nat} (h:zkb w b l a) (hb:Below w.heap.size w w'):zkb w' b l a:=by
 obtain⟨lt,⟨v,e1,e2⟩,c1,f1,h1,h2,h3⟩:=h;exact⟨zLM lt hb.size,⟨v,zca hb e1,e2.bw hb⟩,zca hb c1,by rw[hb.frozen lt];exact f1,h1,h2,h3⟩
def zie (w:World) (b:Nat) (l:List Nat) (B a:Nat):Prop:=zkb w b l a/\∀v,w.cell? ⟨b,0,none⟩=some v->∀j,j<l.length->(ptr v j).block<B
theorem zkb.b {w:World} {b a:Nat} {l:List Nat} (h:zkb w b l a):zie w b l w.heap.size a:=by
 refine⟨h,λ v hv j hj=> ?_⟩;obtain⟨v',e1,e2⟩:=h.ex;rw[e1]at hv;injection hv with hv
 subst hv;exact World.block_lt_of_cell? w _ (e2.cell j (by simpa using hj))
theorem zie.mono {w:World} {b a B B':Nat} {l:List Nat} (h:zie w b l B a) (hB:B<=B'):zie w b l B' a:=⟨h.1,λ v hv j hj=>zLM (h.2 v hv j hj) hB⟩
theorem zie.bw {w w':World} {b a B:Nat} {l:List Nat} (h:zie w b l B a) (hb:Below w.heap.size w w'):zie w' b l B a:=by
 obtain⟨h1,h2⟩:=h;refine⟨h1.bw hb,λ v hv j hj=> ?_⟩;rw[hb.cell h1.lt]at hv;exact h2 v hv j hj
theorem zie.low {w w':World} {b a B:Nat} {l:List Nat} (h:zie w b l B a) (hb:Below B w w') (hB:b<B):zie w' b l B a:=by
 obtain⟨⟨lt,⟨v,e1,e2⟩,c1,f1,h1,h2,h3⟩,h4⟩:=h;have hl:=h4 v e1;refine⟨⟨zLM lt hb.size,⟨v,by rw[hb.cell (by exact hB)];exact e1,e2.sl,e2.len,λ j hj=> ?_⟩,by rw[hb.cell (by exact hB)];exact c1,by rw[hb.frozen (by exact hB)];exact f1,h1,h2,h3⟩,λ u hu j hj=> ?_⟩
 ·rw[hb.cell (hl j (by simpa using hj))];exact e2.cell j hj
 ·rw[hb.cell (by exact hB)]at hu;exact h4 u hu j hj
theorem zie.set {w:World} {b a B:Nat} {l:List Nat} (h:zie w b l B a) {p:Addr} {x:Value} (hp:p.block≠b) (hc:w.cell? p=some x) (hx:∀z,x≠ .int .u8 z) (u:Value):zie (w.setCell p u) b l B a:=by
 obtain⟨⟨lt,⟨v,e1,e2⟩,c1,f1,h1,h2,h3⟩,h4⟩:=h;have hne:∀k,p≠⟨b,k,none⟩:=λ k e=>hp (by rw[e])
 refine⟨⟨by simpa [World.setCell]using lt,⟨v,by rw[zCO _ _ _ _ (hne _)];exact e1,e2.sl,e2.len,λ j hj=> ?_⟩,by rw[zCO _ _ _ _ (hne _)];exact c1,by rw[World.frozen?_setCell];exact f1,h1,h2,h3⟩,λ u' hu j hj=> ?_⟩
 ·rw[zCO]
  ·exact e2.cell j hj
  ·intro e;have h6:=e2.cell j hj;rw[<-e,hc]at h6;(injection h6 with h6);rw[List.getElem_map]at h6;exact hx _ h6
 ·rw[zCO _ _ _ _ (hne _)]at hu;exact h4 u' hu j hj
theorem zpo.frozen {w w':World} {b:Nat} (h:zpo b w w') {p:Addr} (hp:p.block<w.heap.size):w'.frozen? p=w.frozen? p:=by
 rcases h with⟨k,rfl⟩ | ⟨k,k',a,rfl⟩
 ·exact(zia (B:=w.heap.size) w k).frozen hp
 ·have h1:=(zia (B:=w.heap.size) w k);rw[(zia (B:=((w.drewN k).setCell ⟨b,1,none⟩ (.int .i64 a)).heap.size) _ k').frozen (by simp[World.setCell];have:=h1.size;omega)];rw[World.frozen?_setCell];exact h1.frozen hp
theorem zlb.noInt {v:Value} (h:zlb v):∀z,v≠ .int .i64 z:=λ z e=>by obtain⟨a,n,c,rfl,_⟩:=h;cases e
theorem zlb.noLimb {v:Value} (h:zlb v):∀z,v≠ .int .u32 z:=λ z e=>by obtain⟨a,n,c,rfl,_⟩:=h;cases e
theorem zlb.noByte {v:Value} (h:zlb v):∀z,v≠ .int .u8 z:=λ z e=>by obtain⟨a,n,c,rfl,_⟩:=h;cases e
theorem zob {w w':World} {B:Nat} {u:Value} (hg:w.grownBy w' u.ownBlock) (hB:B<=w.heap.size) (hu:∀k,u.ownBlock=some k->B<=k/\k<w.heap.size):Below B w w':=zmc hg hB (λ k hk=>(hu k hk).1)
section
variable {w w':World} {bt:Nat} {l:List Nat} {B b5:Nat} {vr vs vl:Value} {rs:List Value} {rates:List (List Rat)} {start:List Rat} {lost:List Bool}
end
theorem zbc.over {w:World} {e:TypeId} {B size n:Nat} {v:Value} {xs:List Value} (h:zbc w e B size v n xs) {p:Addr} (hp:v.ownBlock=none\/v.ownBlock≠some p.block) (u:Value):zbc (w.setCell p u) e B size v n xs:=by
 have key:∀g,v.ownBlock=some g->(w.setCell p u).heap[g]? =w.heap[g]? :=λ g hg=>Below.heap_setCell _ _ _ _ (by
  intro e;rcases hp with h1 | h1
  ·rw[hg]at h1;cases h1
  ·exact h1 (by rw[hg,e]))
 refine⟨⟨h.own.1,?_⟩,λ g hg cur e' fz hc=> ?_⟩
 ·rcases h.own.2 with h' | ⟨g,cap,cur,rfl,hb,hg,rest⟩
  ·exact .inl h'
  ·exact .inr ⟨g,cap,cur,rfl,hb,by rw[key g rfl];exact hg,rest⟩
 ·rw[key g hg]at hc;exact h.nl g hg cur e' fz hc
theorem zra.over {w:World} {e:TypeId} {B:Nat} {v:Value} {q:List Rat} (h:zra w e B v q) {p:Addr} {x:Value} (hp:v.ownBlock=none\/v.ownBlock≠some p.block) (hc:w.cell? p=some x) (hx:∀z,x≠ .int .u32 z) (u:Value):zra (w.setCell p u) e B v q:=by
 obtain⟨xs,h1,h2⟩:=h;refine⟨xs,h1.over hp u,λ j hj=> ?_⟩;obtain⟨a,b,e1,e2,e3,e4,e5⟩:=h2 j hj;exact⟨a,b,e1,e2,e3,⟨e4.1.over hc hx u,e4.2⟩,⟨e5.1.over hc hx u,e5.2⟩⟩
theorem zya.high {B:Nat} {w0 w:World} (h:zya B w0 w) {p:Addr} {x:Value} (hp:w0.heap.size<=p.block) (hc:w.cell? p=some x) (hx:∀z,x≠ .int .u32 z) (u:Value):zya B w0 (w.setCell p u):=by
 refine⟨by simpa [World.setCell]using h.size,λ g h1 h2=> ?_,λ q z hq=> ?_⟩
 ·rw[Below.heap_setCell _ _ _ _ zO];exact h.row g h1 h2
 ·rw[zCO]
  ·exact h.limb q z hq
  ·intro e;have:=h.limb q z hq;rw[<-e,hc]at this;(injection this with this);exact hx _ this
theorem zya.grow {B:Nat} {w0 w w':World} {v:Value} (h:zya B w0 w) (hg:w.grownBy w' v.ownBlock) (hn:zdc w v) (hv:∀k,v.ownBlock=some k->w0.heap.size<=k):zya B w0 w':=by
 have hs:w.heap.size<=w'.heap.size:=hg.size;refine⟨zLT h.size hs,λ g h1 h2=> ?_,λ q z hq=> ?_⟩
 ·rw[hg.block g (zLM h2 h.size) (λ e=>by have:=hv g e.symm;omega)];exact h.row g h1 h2
 ·have hc:=h.limb q z hq;refine hg.cell hc (λ e=> ?_);have h2:=hn q.block e.symm;unfold World.cell? at hc;split at hc
  ·rename_i cur e' fz hh
   split at hc
   ·cases hc
   ·exact h2 cur e' fz hh _ (by have:=Array.mem_of_getElem? hc;simpa using this) _ rfl
  ·cases hc
section
variable {w0 wA w w':World} {bt B b5:Nat} {l:List Nat} {vr vs vl rv:Value} {row:List Rat}
end
structure zvi (w:World) (B:Nat) (vs ve vr:Value) (rs:List Value) (S E:List Rat) (R:List (List Rat)):Prop where
 s:zra w 53 B vs S
 e:zra w 53 B ve E
 ra:zbc w 23 B 1 vr rs.length rs
 rl:rs.length=R.length
 rows:∀ (j:Nat) (h:j<rs.length) (h':j<R.length),zra w 53 B rs[j] R[j]
 ds:vs.ownBlock≠ve.ownBlock
 dr:∀ (j:Nat) (h:j<rs.length),rs[j].ownBlock≠vs.ownBlock/\rs[j].ownBlock≠ve.ownBlock
 dd:∀ (i j:Nat) (hi:i<rs.length) (hj:j<rs.length),i≠j->rs[i].ownBlock≠rs[j].ownBlock
 sz:B<=w.heap.size
section
variable {w w':World} {B:Nat} {vs ve vr:Value} {rs:List Value} {S E:List Rat} {R:List (List Rat)}
theorem zvi.moves (h:zvi w B vs ve vr rs S E R) (hm:zya B w w'):zvi w' B vs ve vr rs S E R:=
 ⟨h.s.moves hm (zLR _),h.e.moves hm (zLR _),h.ra.moves hm (zLR _),h.rl,λ j h1 h2=>(h.rows j h1 h2).moves hm (zLR _),h.ds,h.dr,h.dd,zLT h.sz hm.size⟩
theorem zvi.bw (h:zvi w B vs ve vr rs S E R) (hb:Below w.heap.size w w'):zvi w' B vs ve vr rs S E R:=h.moves (zya.bw (B:=B) hb)
theorem zra.kindR {v u:Value} {q:List Rat} {xs:List Value} (h:zra w 53 B v q) (h2:zbc w 23 B 1 u xs.length xs):v.ownBlock=none\/v.ownBlock≠u.ownBlock:=by
 obtain⟨ys,y1,y2⟩:=id h;exact y1.kinds h2 zD
theorem zra.kindR' {v u:Value} {q:List Rat} {xs:List Value} (h:zra w 53 B v q) (h2:zbc w 23 B 1 u xs.length xs):u.ownBlock=none\/u.ownBlock≠v.ownBlock:=by
 obtain⟨ys,y1,y2⟩:=id h;exact h2.kinds y1 zD
theorem zvi.push (h:zvi w B vs ve vr rs S E R) {r v':Value} {q:List Rat} (hr:zra w 53 B r q) (h1:r.ownBlock≠vs.ownBlock) (h2:r.ownBlock≠ve.ownBlock) (h3:∀ (j:Nat) (h:j<rs.length),rs[j].ownBlock≠r.ownBlock)
 (hv:zbc w' 23 B 1 v' (rs++ [r]).length (rs++ [r])) (hg:w.grownBy w' vr.ownBlock) (hn:zdc w vr):zvi w' B vs ve v' (rs++ [r]) S E (R++ [q])/\Below B w w':=by
 have hb:Below B w w':=zob (B:=B) hg h.sz h.ra.block;refine⟨⟨h.s.grown hg hn (h.s.kindR h.ra),h.e.grown hg hn (h.e.kindR h.ra),hv,by simp[h.rl],λ j h4 h5=> ?_,h.ds,λ j h4=> ?_,λ i j hi hj hij=> ?_,zLT h.sz hb.size⟩,hb⟩
 ·rcases zOG j rs.length with hj | hj
  ·(have hj2:j<R.length:=by rw[<-h.rl];exact hj);rw[zAL hj,zAL hj2];exact(h.rows j hj hj2).grown hg hn ((h.rows j hj hj2).kindR h.ra)
  ·(obtain rfl:j=rs.length:=by simp at h4;omega);(have e1:(rs++ [r])[rs.length]'h4=r:=by simp);(have e2:(R++ [q])[rs.length]'h5=q:=by simp[h.rl]);rw[e1,e2];exact hr.grown hg hn (hr.kindR h.ra)
 ·rcases zOG j rs.length with hj | hj
  ·rw[zAL hj];exact h.dr j hj
  ·(obtain rfl:j=rs.length:=by simp at h4;omega);(have e1:(rs++ [r])[rs.length]'h4=r:=by simp);rw[e1];exact⟨h1,h2⟩
 ·have key:∀k (hk:k<(rs++ [r]).length),¬k<rs.length->(rs++ [r])[k]=r/\k=rs.length:=λ k hk hk2=>by
   (obtain rfl:k=rs.length:=by simp at hk;omega);exact⟨by simp,rfl⟩
  by_cases hi2:i<rs.length
  ·by_cases hj2:j<rs.length
   ·rw[zAL hi2,zAL hj2];exact h.dd i j hi2 hj2 hij
   ·rw[(key j hj hj2).1,zAL hi2];exact h3 i hi2
  ·by_cases hj2:j<rs.length
   ·rw[(key i hi hi2).1,zAL hj2];exact λ e=>h3 j hj2 e.symm
   ·exact absurd ((key i hi hi2).2.trans (key j hj hj2).2.symm) hij
theorem zvi.putS (h:zvi w B vs ve vr rs S E R) {i:Nat} (hi:i<S.length) {x y z:Value} {r:Rat} (hf:zna w (.agg #[x,y,z]) r):
 zvi (((w.setCell (ptr vs (i*3)) x).setCell (ptr vs (i*3+1)) y).setCell (ptr vs (i*3+2)) z) B vs ve vr rs (S.set i r) E R/\Below B w (((w.setCell (ptr vs (i*3)) x).setCell (ptr vs (i*3+1)) y).setCell (ptr vs (i*3+2)) z):=by
 obtain⟨p1,hg⟩:=h.s.put hi hf;have hn:=h.s.noLimb;have hb:=zob (B:=B) hg h.sz h.s.block;exact⟨⟨p1,h.e.grown hg hn (Or.inr λ e=>h.ds e.symm),h.ra.grown hg (h.s.kindR' h.ra),h.rl,λ j h1 h2=>(h.rows j h1 h2).grown hg hn (Or.inr (h.dr j h1).1),h.ds,h.dr,h.dd,zLT h.sz hb.size⟩,hb⟩
theorem zvi.putR (h:zvi w B vs ve vr rs S E R) {i j:Nat} (hi:i<rs.length) (hi2:i<R.length) (hj:j<R[i].length) {x y z:Value} {r:Rat} (hf:zna w (.agg #[x,y,z]) r):
 zvi (((w.setCell (ptr rs[i] (j*3)) x).setCell (ptr rs[i] (j*3+1)) y).setCell (ptr rs[i] (j*3+2)) z) B vs ve vr rs S E (R.set i (R[i].set j r))/\Below B w (((w.setCell (ptr rs[i] (j*3)) x).setCell (ptr rs[i] (j*3+1)) y).setCell (ptr rs[i] (j*3+2)) z):=by
 have hrow:=h.rows i hi hi2;obtain⟨p1,hg⟩:=hrow.put hj hf;have hn:=hrow.noLimb;have hb:=zob (B:=B) hg h.sz hrow.block;refine⟨⟨h.s.grown hg hn (Or.inr λ e=>(h.dr i hi).1 e.symm),h.e.grown hg hn (Or.inr λ e=>(h.dr i hi).2 e.symm),h.ra.grown hg (hrow.kindR' h.ra),by rw[zGS];exact h.rl,λ k h1 h2=> ?_,h.ds,h.dr,h.dd,zLT h.sz hb.size⟩,hb⟩;by_cases e:i=k
 ·subst e;rw[zSF];exact p1
 ·rw[zTN e];exact(h.rows k h1 (by rw[zGS]at h2;exact h2)).grown hg hn (Or.inr λ e2=>h.dd k i h1 hi (λ e3=>e e3.symm) e2)
theorem zbc.lower {B' n size:Nat} {e:TypeId} {v:Value} {xs:List Value} (h1:zbc w e B size v n xs) (hB:B'<=B):zbc w e B' size v n xs:=by
 refine⟨⟨h1.own.1,?_⟩,h1.nl⟩;rcases h1.own.2 with h | ⟨g,cap,cur,rfl,hb,rest⟩
 ·exact .inl h
 ·exact .inr ⟨g,cap,cur,rfl,zO,rest⟩
theorem zvi.mono {B':Nat} (h:zvi w B vs ve vr rs S E R) (hB:B'<=B):zvi w B' vs ve vr rs S E R:=
 ⟨h.s.mono hB,h.e.mono hB,h.ra.lower hB,h.rl,λ j h1 h2=>(h.rows j h1 h2).mono hB,h.ds,h.dr,h.dd,zLT hB h.sz⟩
end
section
variable {w:World} {b:Nat} {v0 v1 v2 v3:Value}
theorem C4.set (h:C4 w b v0 v1 v2 v3) (u0 u1 u2 u3:Value):C4 ((((w.setCell ⟨b,0,none⟩ u0).setCell ⟨b,1,none⟩ u1).setCell ⟨b,2,none⟩ u2).setCell ⟨b,3,none⟩ u3) b u0 u1 u2 u3:=by
 obtain⟨lt,c0,c1,c2,c3,f0,f1,f2,f3⟩:=h;refine⟨by simpa [World.setCell]using lt,?_,?_,?_,?_,?_,?_,?_,?_⟩<;>go_simp
theorem C4.set2 (h:C4 w b v0 v1 v2 v3) (u:Value):C4 (w.setCell ⟨b,2,none⟩ u) b v0 v1 u v3:=by
 obtain⟨lt,c0,c1,c2,c3,f0,f1,f2,f3⟩:=h;refine⟨by simpa [World.setCell]using lt,?_,?_,?_,?_,?_,?_,?_,?_⟩<;>go_simp
theorem C4.other (h:C4 w b v0 v1 v2 v3) {p:Addr} (hp:p.block≠b) (u:Value):C4 (w.setCell p u) b v0 v1 v2 v3:=by
 have key:∀k,p≠⟨b,k,none⟩:=λ k e=>hp (by rw[e])
 have key2:∀k,(⟨b,k,none⟩:Addr)≠p:=λ k e=>hp (by rw[<-e])
 obtain⟨lt,c0,c1,c2,c3,f0,f1,f2,f3⟩:=h;refine⟨by simpa [World.setCell]using lt,?_,?_,?_,?_,?_,?_,?_,?_⟩
 all_goals first
  |(rw[zCO _ _ _ _ (key2 _)];assumption)
  |(rw[zCO _ _ _ _ (key _)];assumption)
  |(rw[World.frozen?_setCell];assumption)
theorem own_ne {w1 w2:World} {B1:Nat} {e1 e2:TypeId} {v v':Value} {q q':List Rat} (h:zra w1 e1 B1 v q) (h':zra w2 e2 w1.heap.size v' q') (hq':0<q'.length):v'.ownBlock≠v.ownBlock:=by
 obtain⟨g,h1,_,h2,_,_⟩:=h'.blk hq';rw[h1];intro e;have:=h.block g e.symm;omega
end
end Go.Proofs.YtkpedaflofejnaaGreat
