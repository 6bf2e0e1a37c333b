/-
  package phase: Before, of two valid laws.
-/
import Derived.Test.YtlpdkbmmbdfoiaaGPh14
import Derived.Test.YtlpdkbmmbdfoiaaGTl1
import Derived.Test.YtlpdkbmmbdfoiaaGPp4
set_option linter.unusedVariables false
set_option linter.unusedSimpArgs false
namespace Go.Proofs.Ytlpdkbmmbdfoiaa
open Go.RowKit
theorem lim_mul {p q:Rat} (hp:zvg p) (hq:zvg q):fits (p*q):=mul_fits26 (by have:=hp.wt;have:=hq.wt;omega)
theorem zhm.parts {w:World} {v:Value} {l:LQ} (h:zhm w v l) (hl:zxb l):∃nm sa sk ra rk ea ek,v= .agg #[nm, .slice sa l.start.length sk, .slice ra l.start.length rk, .slice ea l.start.length ek]∧zbb w (.slice sa l.start.length sk) l.start∧MatC w (.slice ra l.start.length rk) l.rates∧zbb w (.slice ea l.start.length ek) l.exit:=by
 obtain⟨nm,sv,rv,ev,rfl,hs,hr,he⟩:=h
 obtain⟨ra,rn,rk,rfl,_⟩:=id hr.sl
 obtain⟨sa,sn,sk,rfl,_⟩:=id hs.sl
 obtain⟨ea,en,ek,rfl,_⟩:=id he.sl
 have hsn:sn=l.start.length:=hs.len
 have hrn:rn=l.start.length:=hr.len.trans hl.rl
 have hen:en=l.start.length:=he.len.trans hl.el
 subst hsn hrn hen
 exact⟨nm,sa,sk,ra,rk,ea,ek,rfl,hs,hr,he⟩
theorem zoi {x:Nat} (h:x≤1900):wrap64 (x:Nat)=(x:Nat):=by
 unfold wrap64;omega
theorem keep8x {X Y:World} {a1 a2 a3 a4 a5 a6 a7 a8:Addr} {x1 x2 x3 x4 x5 x6 x7 x8:Value} (h:X.cell? a1=some x1∧X.cell? a2=some x2∧X.cell? a3=some x3∧X.cell? a4=some x4∧X.cell? a5=some x5∧X.cell? a6=some x6∧X.cell? a7=some x7∧X.cell? a8=some x8) (hb:Below X.heap.size X Y):
 Y.cell? a1=some x1∧Y.cell? a2=some x2∧Y.cell? a3=some x3∧Y.cell? a4=some x4∧Y.cell? a5=some x5∧Y.cell? a6=some x6∧Y.cell? a7=some x7∧Y.cell? a8=some x8:=by
 obtain⟨k1,k2,k3,k4,k5,k6,k7,k8⟩:=h
 exact⟨zba hb k1,zba hb k2,zba hb k3,zba hb k4,zba hb k5,zba hb k6,zba hb k7,zba hb k8⟩
theorem keep6x {X Y:World} {a1 a2 a3 a4 a5 a6:Addr} {x1 x2 x3 x4 x5 x6:Value} (h:X.cell? a1=some x1∧X.cell? a2=some x2∧X.cell? a3=some x3∧X.cell? a4=some x4∧X.cell? a5=some x5∧X.cell? a6=some x6) (hb:Below X.heap.size X Y):
 Y.cell? a1=some x1∧Y.cell? a2=some x2∧Y.cell? a3=some x3∧Y.cell? a4=some x4∧Y.cell? a5=some x5∧Y.cell? a6=some x6:=by
 obtain⟨k1,k2,k3,k4,k5,k6⟩:=h
 exact⟨zba hb k1,zba hb k2,zba hb k3,zba hb k4,zba hb k5,zba hb k6⟩
theorem keep12x {X Y:World} {a1 a2 a3 a4 a5 a6 a7 a8 a9 a10 a11 a12:Addr} {x1 x2 x3 x4 x5 x6 x7 x8 x9 x10 x11 x12:Value} (h:X.cell? a1=some x1∧X.cell? a2=some x2∧X.cell? a3=some x3∧X.cell? a4=some x4∧X.cell? a5=some x5∧X.cell? a6=some x6∧X.cell? a7=some x7∧X.cell? a8=some x8∧X.cell? a9=some x9∧X.cell? a10=some x10∧X.cell? a11=some x11∧X.cell? a12=some x12) (hb:Below X.heap.size X Y):
 Y.cell? a1=some x1∧Y.cell? a2=some x2∧Y.cell? a3=some x3∧Y.cell? a4=some x4∧Y.cell? a5=some x5∧Y.cell? a6=some x6∧Y.cell? a7=some x7∧Y.cell? a8=some x8∧Y.cell? a9=some x9∧Y.cell? a10=some x10∧Y.cell? a11=some x11∧Y.cell? a12=some x12:=by
 obtain⟨k1,k2,k3,k4,k5,k6,k7,k8,k9,k10,k11,k12⟩:=h
 exact⟨zba hb k1,zba hb k2,zba hb k3,zba hb k4,zba hb k5,zba hb k6,zba hb k7,zba hb k8,zba hb k9,zba hb k10,zba hb k11,zba hb k12⟩
theorem BX.putE {w w1 w2 w3:World} {B n k:Nat} {vM vR vS:Value} {rs:List Value} {qs:Nat→List Rat} {f g:Nat→Rat} (h:BX w B vM rs n qs vR f vS g k) (hk:k<n) {r:Value} {q:List Rat} (hr:zya w 32 B r q) (h1:∀ (i:Nat) (hi:i<rs.length),rs[i].ownBlock=none∨rs[i].ownBlock≠r.ownBlock) (h2:r.ownBlock=none∨r.ownBlock≠vR.ownBlock) (h3:r.ownBlock=none∨r.ownBlock≠vS.ownBlock)
 {x y z x' y' z':Value} (hf:zqa w (.agg #[x,y,z]) (f k)) (hg:zqa w (.agg #[x',y',z']) (g k)) (e1:w.setCell (ptr vM k) r=w1) (e2:((w1.setCell (ptr vR (k*3)) x).setCell (ptr vR (k*3+1)) y).setCell (ptr vR (k*3+2)) z=w2) (e3:((w2.setCell (ptr vS (k*3)) x').setCell (ptr vS (k*3+1)) y').setCell (ptr vS (k*3+2)) z'=w3):
 BX w3 B vM (rs.set k r) n (fun i=>if i=k then q else qs i) vR f vS g (k+1)∧Below B w w3∧zec w1 32 B vR n f (fun j=>j<k)∧zec w2 32 B vS n g (fun j=>j<k):=by
 subst e1 e2 e3
 exact h.put hk hr h1 h2 h3 hf hg
theorem two_mkF (w:World) (e:TypeId) (n:Nat) (hn:n≤128):
 zqb (mkF (mkF w.drew e n) e n) e w.heap.size (.slice (some ⟨w.heap.size,0,none⟩) n n) n∧zqb (mkF (mkF w.drew e n) e n) e w.heap.size (.slice (some ⟨w.heap.size+1,0,none⟩) n n) n∧
  (Value.slice (some ⟨w.heap.size,0,none⟩) n n).ownBlock≠(Value.slice (some ⟨w.heap.size+1,0,none⟩) n n).ownBlock∧Below w.heap.size w (mkF (mkF w.drew e n) e n):=by
 have h1:=(zqb.mkFB w.drew e n w.heap.size rfl hn).below (zhf (mkF w.drew e n) e n)
 have h2:=zqb.mkFB (mkF w.drew e n) e n (w.heap.size+1) (by rw[mkF_size];rfl) hn
 exact⟨h1,h2.mono (Nat.le_succ _),by simp[Value.ownBlock],zaa (zaa (zja w) (zhf _ _ _)) (zhf _ _ _)⟩
set_option maxRecDepth 100000 in
set_option maxHeartbeats 12800000 in
theorem zof (va vb:Value) (a b:LQ) (w:World) (ha:zhm w va a) (hb:zhm w vb b) (hla:zxb a) (hlb:zxb b) (hp:BefP a b):Calls Try.prog 8 #[va,vb] w (RF0 w (befQ a b)):=by
 obtain⟨i3,hi3,hz3,hs3,hy3⟩:=info_parts Try.infoF
 have hM:=zon (P:=Try.prog) 23 32 i3 Try.underlying23 hi3 hz3 hs3 (by rw[hy3];decide)
 have hMF:=fun n hn=>run_mkF (P:=Try.prog) 23 32 i3 Try.underlying23 hi3 hz3 hs3 hy3 n hn
 obtain⟨i4,hi4,hz4,hs4,hy4⟩:=info_parts Try.infoRow
 have hMR:=zbi (P:=Try.prog) 24 23 i4 Try.underlying24 hi4 hz4 hs4 hy4
 clear hi3 hz3 hs3 hy3 hi4 hz4 hs4 hy4
 obtain⟨nma,sa,ska,ra,rka,ea,eka,rfl,hsa,hra,hea⟩:=ha.parts hla
 obtain⟨nmb,sb,skb,rb,rkb,eb,ekb,rfl,hsb,hrb,heb⟩:=hb.parts hlb
 obtain⟨m,hm⟩:∃m,a.start.length=m:=⟨_,rfl⟩
 obtain⟨n,hn⟩:∃n,b.start.length=n:=⟨_,rfl⟩
 have HMN:=zH hm
 have HNN:=zH hn
 have m4:m≤4:=by rw[←hm];exact hla.n4
 have n4:n≤4:=by rw[←hn];exact hlb.n4
 have m1:1≤m:=by rw[←hm];exact hla.n1
 have n1:1≤n:=by rw[←hn];exact hlb.n1
 rw[hm]at hsa hra hea ha
 rw[hn]at hsb hrb heb hb
 rw[hm,hn]
 have hba:=zca w (.cells #[nma, .slice sa m ska, .slice ra m rka, .slice ea m eka] 26)
 have hbb:=zca (w.alloc (.cells #[nma, .slice sa m ska, .slice ra m rka, .slice ea m eka] 26)) (.cells #[nmb, .slice sb n skb, .slice rb n rkb, .slice eb n ekb] 26)
 have hbc:=zca ((w.alloc (.cells #[nma, .slice sa m ska, .slice ra m rka, .slice ea m eka] 26)).alloc (.cells #[nmb, .slice sb n skb, .slice rb n rkb, .slice eb n ekb] 26)) (.cells #[.bool false, .slice none 0 0, .slice none 0 0] 32)
 have hz1:(w.alloc (.cells #[nma, .slice sa m ska, .slice ra m rka, .slice ea m eka] 26)).heap.size=w.heap.size+1:=by show(w.heap.push _).size=_;rw[Array.size_push]
 have hz2:((w.alloc (.cells #[nma, .slice sa m ska, .slice ra m rka, .slice ea m eka] 26)).alloc (.cells #[nmb, .slice sb n skb, .slice rb n rkb, .slice eb n ekb] 26)).heap.size=w.heap.size+1+1:=by simp[hz1]
 have HCA:=zH (((C4.new w 26 nma (.slice sa m ska) (.slice ra m rka) (.slice ea m eka)).belowS hbb).belowS hbc)
 have hcb:=(C4.new (w.alloc (.cells #[nma, .slice sa m ska, .slice ra m rka, .slice ea m eka] 26)) 26 nmb (.slice sb n skb) (.slice rb n rkb) (.slice eb n ekb)).belowS hbc
 rw[hz1]at hcb
 have HCB:=zH hcb
 have HT:=zH (C3.newB (b:=w.heap.size+1+1) ((w.alloc (.cells #[nma, .slice sa m ska, .slice ra m rka, .slice ea m eka] 26)).alloc (.cells #[nmb, .slice sb n skb, .slice rb n rkb, .slice eb n ekb] 26)) 32 (.bool false) (.slice none 0 0) (.slice none 0 0) hz2)
 have HBW:=zH (zaa (zaa hba hbb) hbc)
 have HA:=zH (ha.below HBW.out)
 have HB:=zH (hb.below HBW.out)
 have HRA:=zH (hra.below HBW.out)
 have HRB:=zH (hrb.below HBW.out)
 have HSA:=zH (hsa.below HBW.out)
 have HSB:=zH (hsb.below HBW.out)
 have HEA:=zH (hea.below HBW.out)
 have sra:=hra.sl
 have srb:=hrb.sl
 have ssa:=hsa.sl
 have ssb:=hsb.sl
 have sea:=hea.sl
 have HLA:=zH hla
 have HLB:=zH hlb
 have HP:=zH hp
 obtain⟨N,hN⟩:∃N,m*n=N:=⟨_,rfl⟩
 have hN16:N≤16:=by rw[←hN];exact Nat.mul_le_mul m4 n4
 have HBN:Hid (bfN a b=N):=zH (by unfold bfN;rw[hm,hn];exact hN)
 have HNE:=zH hN
 have hwN:wrap64 ((m:Int)*(n:Int))=(N:Nat):=by
  have e:((m:Int)*(n:Int))=((N:Nat):Int):=by rw[←hN,Int.natCast_mul]
  rw[e]
  exact zoi (by omega)
 have HWN:=zH hwN
 clear ha hb hsa hra hea hsb hrb heb hla hlb hp hba hbb hbc hz1 hz2 hcb hm hn hwN hN
 go_enter Try.func8,Try.ntmps8
 go_upto_region 1 with fail
 generalize ((w.alloc (.cells #[nma, .slice sa m ska, .slice ra m rka, .slice ea m eka] 26)).alloc (.cells #[nmb, .slice sb n skb, .slice rb n rkb, .slice eb n ekb] 26)).alloc (.cells #[.bool false, .slice none 0 0, .slice none 0 0] 32)=W2 at *
 obtain⟨-,c0,c1,c2,c3,-,-,-,-⟩:=HCA.out
 obtain⟨-,d0,d1,d2,d3,-,-,-,-⟩:=HCB.out
 go_upto_region 5 with(first
  |(go_at_call 22;(with_reducible refine(zbh _ a _ HA.out HLA.out).mono ?_);rintro e4 w4 ⟨rfl,hb4⟩
    have c0:=zba hb4 c0
    have c1:=zba hb4 c1
    have c2:=zba hb4 c2
    have c3:=zba hb4 c3
    have d0:=zba hb4 d0
    have d1:=zba hb4 d1
    have d2:=zba hb4 d2
    have d3:=zba hb4 d3)
  |(go_at_call 22;(with_reducible refine(zbh _ b _ (HB.out.below hb4) HLB.out).mono ?_);rintro e5 w5 ⟨rfl,hb5⟩
    have HB5:=zH (zaa hb4 hb5)
    have c0:=zba hb5 c0
    have c1:=zba hb5 c1
    have c2:=zba hb5 c2
    have c3:=zba hb5 c3
    have d0:=zba hb5 d0
    have d1:=zba hb5 d1
    have d2:=zba hb5 d2
    have d3:=zba hb5 d3
    clear hb4 hb5))
 try rw[HWN.out]
 go_upto_region 6 with(refine hMR w5 rfl _ _ rfl w5.heap.size _ N rfl rfl rfl (by omega) (Nat.le_refl _) ?_;intro vM w6 hO6 hb6
                       have HO6:=zH (zrj.start hO6)
                       have HB6:=zH hb6
                       have slM:=hO6.sl
                       have lnM:=hO6.len
                       clear hO6 hb6)
 clear hMR c0 c1 c2 c3 d0 d1 d2 d3
 have hMN:=hMF N (by omega)
 go_cut [9,10] (fun u9 u10 wy=>∃vR vS,u9=vR∧u10=vS∧zqb wy 32 w6.heap.size vR N∧zqb wy 32 w6.heap.size vS N∧vR.ownBlock≠vS.ownBlock∧Below w6.heap.size w6 wy)
 case first =>
  go_region_held3 (fun w'=>Below w6.heap.size w6 w') (first
   | with_reducible exact zja w6
   | with_reducible exact zaa (by assumption) (zhf _ _ _)) (fail)
  all_goals
   obtain⟨y1,y2,y3,y4⟩:=two_mkF w6 32 N (by omega)
   go_wp2_with fail
   go_meet
   case rel=>
    first
     | exact⟨_,_,rfl,rfl,y1,y2,y3,y4⟩
     | exact⟨_,_,rfl,rfl,y2,y1,y3.symm,y4⟩
 case rest=>
  obtain⟨_,_,rfl,rfl,hR,hS,hne,hb7⟩:=hcut
  obtain⟨W7,hw3⟩:∃w3,w3=wc:=⟨_,rfl⟩
  subst hw3
  have hBX:BX W7 w5.heap.size vM (List.replicate N (.slice none 0 0)) N (fun _=> []) u9 (bfR a b) u10 (bfS a b) 0:=
   ⟨HO6.out.below hb7,zec.start (hR.mono HB6.out.size) _,zec.start (hS.mono HB6.out.size) _,fun i hi=>Or.inl (by rw[List.getElem_replicate];rfl),fun i hi=>Or.inl (by rw[List.getElem_replicate];rfl),Or.inr hne,Nat.le_trans HB6.out.size hb7.size⟩
  have HBX:=zH hBX
  have HB7:=zH (zfa HB6.out hb7 HB6.out.size)
  have slR:=hR.sl
  have slS:=hS.sl
  have lnR:=hR.len
  have lnS:=hS.len
  have HLE:Hid (W2.heap.size≤w5.heap.size):=zH HB5.out.size
  have HBW7:Hid (Below W2.heap.size W2 W7):=zH (HB5.out.trans (HB7.out.mono HLE.out))
  obtain⟨-,c0,c1,c2,c3,-,-,-,-⟩:=HCA.out.belowS HBW7.out
  clear hR hS hne hb7 hBX HO6 HB6 hMF hMN
  go_wp2_with fail
  clear c0 c1 c2 c3 HBW7
  go_loopg [48] (m) (fun g u48 wr=>∃ (i:Nat) (rs:List Value),i≤m∧g=m-i∧u48= .int .i64 i∧BX wr w5.heap.size vM rs N (fun r=>if r<i*n then zib N (bfA a b r)else []) u9 (bfR a b) u10 (bfS a b) (i*n)∧Below w5.heap.size w5 wr)
  case atStart=>exact⟨0,_,Nat.zero_le _,rfl,rfl,by
   have h:=HBX.out
   rw[Nat.zero_mul]
   exact⟨h.t.congr (fun k _=>(if_neg (Nat.not_lt_zero k)).symm),h.r,h.s,h.nr,h.ns,h.rs,h.sz⟩,HB7.out⟩
  case round=>
   obtain⟨i,rs,hin,hg,rfl,hx,hbr⟩:=hrel
   obtain⟨wb,hwb⟩:∃wb,wb=wr:=⟨_,rfl⟩
   subst hwb
   have HG:=zH hg
   have HX:=zH hx
   have HBR:=zH hbr
   have HBW8:Hid (Below W2.heap.size W2 wb):=zH (HB5.out.trans (HBR.out.mono HLE.out))
   clear hg hx hbr HBX HB7
   by_cases him:i<m
   ·have i1:(0:Int)≤(i:Int):=by omega
    have i2:(i:Int)<(m:Nat):=by omega
    obtain⟨-,d0,d1,d2,d3,-,-,-,-⟩:=HCB.out.belowS HBW8.out
    go_wp2_with fail
    clear d0 d1 d2 d3 HBW8
    go_loopg [54] (n) (fun g u54 wr=>∃ (j:Nat) (rs:List Value),j≤n∧g=n-j∧u54= .int .i64 j∧BX wr w5.heap.size vM rs N (fun r=>if r<i*n+j then zib N (bfA a b r)else []) u9 (bfR a b) u10 (bfS a b) (i*n+j)∧Below w5.heap.size w5 wr)
    case atStart=>exact⟨0,rs,Nat.zero_le _,rfl,rfl,HX.out,HBR.out⟩
    case round=>
     obtain⟨j,rs,hjn,hgj,rfl,hx,hbj⟩:=hrel
     obtain⟨w8,hw8⟩:∃wb,wb=wr:=⟨_,rfl⟩
     subst hw8
     have HGJ:=zH hgj
     have HXJ:=zH hx
     have HBJ:=zH hbj
     clear hgj hx hbj HX HBR
     by_cases hjl:j<n
     ·have j1:(0:Int)≤(j:Int):=by omega
      have j2:(j:Int)<(n:Nat):=by omega
      obtain⟨p,hp⟩:∃p,i*n=p:=⟨_,rfl⟩
      obtain⟨q,hq⟩:∃q,p+j=q:=⟨_,rfl⟩
      have hqN:q<N:=by rw[←hq,←hp,←HNE.out];exact zao him hjl
      have hpq:p≤q:=by rw[←hq];exact Nat.le_add_right p j
      have hw1:wrap64 ((i:Int)*(n:Int))=(p:Nat):=by
       have e:((i:Int)*(n:Int))=((p:Nat):Int):=by rw[←hp,Int.natCast_mul]
       rw[e]
       exact zoi (Nat.le_trans hpq (Nat.le_trans (Nat.le_of_lt hqN) (Nat.le_trans hN16 (by decide))))
      have hw2:wrap64 ((p:Int)+(j:Int))=(q:Nat):=by
       have e:((p:Int)+(j:Int))=((q:Nat):Int):=by rw[←hq];exact(Int.natCast_add p j).symm
       rw[e]
       exact zoi (Nat.le_trans (Nat.le_of_lt hqN) (Nat.le_trans hN16 (by decide)))
      have HQE:Hid (i*n+j=q):=zH (by rw[hp];exact hq)
      rw[hp,hq]at HXJ
      have HQN:=zH hqN
      have iq1:(0:Int)≤(q:Int):=Int.natCast_nonneg q
      have iq2:(q:Int)<(N:Nat):=Int.ofNat_lt.2 hqN
      clear hp hq hpq hqN
      go_wp2_with (refine hM w8 rfl _ _ rfl w8.heap.size _ N rfl rfl rfl (by omega) (Nat.le_refl _) ?_;intro vr w9 hr9 hb9 hv9
                   have HR9:=zH (zec.start hr9 (fun _=>0))
                   have HB9:=zH hb9
                   have slr:=hr9.sl
                   have lnr:=hr9.len
                   clear hr9 hb9 hv9)
      clear hw1 hw2
      go_loopg [66] (N) (fun g u66 wr=>∃ (c:Nat),c≤N∧g=N-c∧u66= .int .i64 c∧zec wr 32 w8.heap.size vr N (fun _=>0) (fun t=>t<c)∧Below w8.heap.size w8 wr)
      case atStart=>exact⟨0,Nat.zero_le _,rfl,rfl,HR9.out,HB9.out⟩
      case round=>
       obtain⟨c,hcn,hgc,rfl,hr,hbc⟩:=hrel
       obtain⟨w10,hw10⟩:∃wb,wb=wr:=⟨_,rfl⟩
       subst hw10
       have HGC:=zH hgc
       have HRC:=zH hr
       have HBC:=zH hbc
       clear hgc hr hbc HR9 HB9
       by_cases hcl:c<N
       ·have k1:(0:Int)≤(c:Int):=by omega
        have k2:(c:Int)<(N:Nat):=by omega
        go_wp2_with (first
         |(go_at_call 23;(with_reducible refine(zqe _).mono ?_);rintro e7 w7 ⟨v7,rfl,hv7,hb7⟩
           obtain⟨t7,x7,y7,rfl,⟨a71,l71,k71,rfl,_⟩,⟨a72,l72,k72,rfl,_⟩⟩:=hv7.isF
           have hr7:=HRC.out.below hb7
           obtain⟨q0,q1,q2,d0,d1,d2,f0,f1,f2,n01,n02,n12⟩:=hr7.slots hcl
           have hput:=hr7.put hcl hv7
           have HPC:=zH hput.1.succ
           have HBX:=zH ((zfa HBC.out hb7 HBC.out.size).trans (zna hput.2 (Nat.le_trans HBC.out.size hb7.size) (fun k hk=>(hr7.block k hk).1)))
           clear hr7 hput hb7 hv7))
        go_roundg (N- (c+1))
        case measure=>(have:=HGC.out;omega)
        case rel=>exact⟨c+1,by omega,rfl,by go_num,HPC.out,HBX.out⟩
       ·obtain rfl:N=c:=by omega
        have hfr:zya w10 32 w8.heap.size vr (zib N (fun _=>0)):=HRC.out.frRow (fun j hj=>hj)
        have HB510:Hid (Below w5.heap.size w5 w10):=zH (zfa HBJ.out HBC.out HBJ.out.size)
        have HBW10:Hid (Below W2.heap.size W2 w10):=zH (HB5.out.trans (HB510.out.mono HLE.out))
        go_upto_region 20 with fail
        obtain⟨y1,y2,y3,rfl,_⟩:=id slr
        obtain rfl:y2=N:=lnr
        have hbD:=zja (B:=w10.heap.size) w10
        have hWD:=zaa HBW10.out hbD
        have HBD:=zH (zfa HBC.out hbD HBC.out.size)
        have hAD:=HA.out.below hWD
        have hBL:=HB.out.below hWD
        have hFD:=hfr.moves (zhb.below (B:=w8.heap.size) hbD) (Nat.le_refl _)
        obtain⟨-,c0,c1,c2,c3,-,-,-,-⟩:=HCA.out.belowS hWD
        obtain⟨-,d0,d1,d2,d3,-,-,-,-⟩:=HCB.out.belowS hWD
        have HOA:Hid (∀w0,zhm w0 (.agg #[nma, .slice sa m ska, .slice ra m rka, .slice ea m eka]) a→Calls Try.prog 25 #[.agg #[nma, .slice sa m ska, .slice ra m rka, .slice ea m eka], .int .i64 i] w0 (RF1 w0 (zxf a i))):=zH (fun w0 h=>zln _ a i w0 h HLA.out (by rw[HMN.out];exact him))
        have HOB:Hid (∀w0,zhm w0 (.agg #[nmb, .slice sb n skb, .slice rb n rkb, .slice eb n ekb]) b→Calls Try.prog 25 #[.agg #[nmb, .slice sb n skb, .slice rb n rkb, .slice eb n ekb], .int .i64 j] w0 (RF1 w0 (zxf b j))):=zH (fun w0 h=>zln _ b j w0 h HLB.out (by rw[HNN.out];exact hjl))
        have HPF:Hid (fits (zxf a i)∧fits (zxf b j)∧fits (zxf a i+zxf b j)):=zH ⟨outQ_fits HLA.out (by rw[HMN.out];exact him),outQ_fits HLB.out (by rw[HNN.out];exact hjl),zyk HLA.out HLB.out (by rw[HMN.out];exact him) (by rw[HNN.out];exact hjl)⟩
        clear hfr
        refine wpN.start [10] (fun w'=>w'.cell? ⟨w.heap.size,0,none⟩=some nma∧w'.cell? ⟨w.heap.size,1,none⟩=some (.slice sa m ska)∧w'.cell? ⟨w.heap.size,2,none⟩=some (.slice ra m rka)∧w'.cell? ⟨w.heap.size,3,none⟩=some (.slice ea m eka)∧w'.cell? ⟨w.heap.size+1,0,none⟩=some nmb∧w'.cell? ⟨w.heap.size+1,1,none⟩=some (.slice sb n skb)∧w'.cell? ⟨w.heap.size+1,2,none⟩=some (.slice rb n rkb)∧w'.cell? ⟨w.heap.size+1,3,none⟩=some (.slice eb n ekb)) (by kernel_rfl) ⟨c0,c1,c2,c3,d0,d1,d2,d3⟩ (fun hHeld=> ?_)
        generalize w10.drew=wd at *
        refine wpN.t 0 ?_
        refine wpN.t 1 ?_
        refine wpN.t 2 ?_
        refine wpN.t 3 ?_
        refine wpN.t 5 ?_
        refine wpN.t 6 ?_
        (refine wpN.oo 4 ?_;intro K hK)
        refine zxa 25 #[.agg #[nma, .slice sa m ska, .slice ra m rka, .slice ea m eka], .int .i64 i] ?_ ?_ (HOA.out wd hAD) ?_
        ·rfl
        ·go_simp
        rintro e4 w11 ⟨v4,rfl,hv4,hb4⟩
        obtain⟨t4,x4,y4,rfl,⟨a41,l41,k41,rfl,_⟩,⟨a42,l42,k42,rfl,_⟩⟩:=hv4.isF
        refine⟨_,rfl,?_⟩
        replace hHeld:=keep8x hHeld hb4
        refine hK.out _ _ (fun _=>hHeld) ?_
        clear hK K
        try simp only[Act.put,List.setIfInBounds_toArray,List.set_cons_zero,List.set_cons_succ]
        (refine wpN.oo 7 ?_;intro K hK)
        refine zxa 25 #[.agg #[nmb, .slice sb n skb, .slice rb n rkb, .slice eb n ekb], .int .i64 j] ?_ ?_ (HOB.out w11 (hBL.below hb4)) ?_
        ·rfl
        ·go_simp
        rintro e5 w12 ⟨v5,rfl,hv5,hb5⟩
        obtain⟨t5,x5,y5,rfl,⟨a51,l51,k51,rfl,_⟩,⟨a52,l52,k52,rfl,_⟩⟩:=hv5.isF
        refine⟨_,rfl,?_⟩
        replace hHeld:=keep8x hHeld hb5
        refine hK.out _ _ (fun _=>hHeld) ?_
        clear hK K
        try simp only[Act.put,List.setIfInBounds_toArray,List.set_cons_zero,List.set_cons_succ]
        (refine wpN.oo 8 ?_;intro K hK)
        refine zxa 24 #[.agg #[.bool t4, .slice a41 l41 k41, .slice a42 l42 k42], .agg #[.bool t5, .slice a51 l51 k51, .slice a52 l52 k52]] ?_ ?_ (pplus_can _ _ (zxf a i) (zxf b j) w12 (hv4.below hb5) hv5 HPF.out.1 HPF.out.2.1 HPF.out.2.2) ?_
        ·rfl
        ·go_simp
        rintro e6 w13 ⟨v6,rfl,hv6,hb6⟩
        obtain⟨t6,x6,y6,rfl,⟨a61,l61,k61,rfl,_⟩,⟨a62,l62,k62,rfl,_⟩⟩:=hv6.isF
        refine⟨_,rfl,?_⟩
        replace hHeld:=keep8x hHeld hb6
        refine hK.out _ _ (fun _=>hHeld) ?_
        clear hK K
        try simp only[Act.put,List.setIfInBounds_toArray,List.set_cons_zero,List.set_cons_succ]
        have hF13:=((hFD.moves (zhb.below (B:=w8.heap.size) hb4) (Nat.le_refl _)).moves (zhb.below (B:=w8.heap.size) hb5) (Nat.le_refl _)).moves (zhb.below (B:=w8.heap.size) hb6) (Nat.le_refl _)
        have hB13:=zfa (zfa (zfa HBD.out hb4 HBD.out.size) hb5 (Nat.le_trans HBD.out.size hb4.size)) hb6 (Nat.le_trans HBD.out.size (Nat.le_trans hb4.size hb5.size))
        have hql:q<(zib y2 (fun _=>(0:Rat))).length:=by rw[zea];exact HQN.out
        have hql0:0<(zib y2 (fun _=>(0:Rat))).length:=Nat.lt_of_le_of_lt (Nat.zero_le q) hql
        refine wpN.t 9 ?_
        have f0:=hF13.frozen (q*3) (by omega)
        have f1:=hF13.frozen (q*3+1) (by omega)
        have f2:=hF13.frozen (q*3+2) (by omega)
        have n01:=hF13.inj hql0 (show q*3≠q*3+1 by omega)
        have n02:=hF13.inj hql0 (show q*3≠q*3+2 by omega)
        have n12:=hF13.inj hql0 (show q*3+1≠q*3+2 by omega)
        obtain⟨_,e0,z0,z1,z2,-,-⟩:=hF13.fracs.at' q hql
        (refine wpN.oo 10 ?_;intro K hK)
        rw[if_pos (by rfl)]
        go_simp
        refine hK.out _ _ (fun h=>by cases h) ?_
        clear hK K hHeld f0 f1 f2 n01 n02 n12 c0 c1 c2 c3 d0 d1 d2 d3 z0 z1 z2
        refine wpN.done (by kernel_rfl) ?_ _
        have hput:=hF13.put hql hv6
        have e0:zxf a i+zxf b j=bf1 a b i j 0 q:=by rw[bf1_start,HNN.out,if_pos HQE.out.symm]
        rw[e0,zmk (g:=bf1 a b i j 0) (fun k hk hkq=>by rw[bf1_start,HNN.out,if_neg (fun e=>hkq (e.trans HQE.out))])]at hput
        have HF0:=zH hput.1
        have HB0:=zH (hB13.trans (zna hput.2 hB13.size (fun k hk=>(hF13.block k hk).1)))
        clear hput hF13 hB13 hql hql0 e0 hFD hAD hBL hbD hWD hb4 hb5 hb6 hv4 hv5 hv6 HOA HOB HPF HBD HB510 HBW10 HRC HBC HGC
        generalize ((w13.setCell (ptr (.slice y1 y2 y3) (q*3)) (.bool t6)).setCell (ptr (.slice y1 y2 y3) (q*3+1)) (.slice a61 l61 k61)).setCell (ptr (.slice y1 y2 y3) (q*3+2)) (.slice a62 l62 k62)=X0 at *
        have HB5X:Hid (Below w5.heap.size w5 X0):=zH (zfa HBJ.out HB0.out HBJ.out.size)
        have HBWX:Hid (Below W2.heap.size W2 X0):=zH (HB5.out.trans (HB5X.out.mono HLE.out))
        obtain⟨-,c0,c1,c2,c3,-,-,-,-⟩:=HCA.out.belowS HBWX.out
        have hia:i<a.rates.length:=by rw[HLA.out.rl,HMN.out];exact him
        obtain⟨rowa,hca0,hrowa⟩:=HRA.out.at' i hia
        obtain⟨oa1,oa2,oa3,rfl,_⟩:=id hrowa.sl
        have hrla:(a.rates[i]'hia).length=m:=(HLA.out.row i hia).1.trans HMN.out
        obtain rfl:oa2=m:=hrowa.len.trans hrla
        have HROWA:=zH hrowa
        have HRLA:=zH hrla
        have srowa:=hrowa.sl
        have hca0:=zba HBWX.out hca0
        have HRGA:Hid (a.rates.getD i []=a.rates[i]'hia):=zH (by rw[List.getD_eq_getElem?_getD,List.getElem?_eq_getElem hia];rfl)
        clear hrowa hrla
        go_wp2_with fail
        clear hca0 c0 c1 c2 c3 HB5X HBWX
        go_loopg [90] (oa2) (fun g u90 wr=>∃ (k:Nat),k≤oa2∧g=oa2-k∧u90= .int .i64 k∧zya wr 32 w8.heap.size (.slice y1 y2 y3) (zib y2 (bf1 a b i j k))∧Below w8.heap.size w8 wr)
        case atStart=>exact⟨0,Nat.zero_le _,rfl,rfl,HF0.out,HB0.out⟩
        case round=>
         obtain⟨k,hkn,hgk,rfl,hrk,hbk⟩:=hrel
         obtain⟨w10,hw10⟩:∃wb,wb=wr:=⟨_,rfl⟩
         subst hw10
         have HGK:=zH hgk
         have HRK:=zH hrk
         have HBK:=zH hbk
         have HBW10:Hid (Below W2.heap.size W2 w10):=zH (HB5.out.trans ((zfa HBJ.out HBK.out HBJ.out.size).mono HLE.out))
         clear hgk hrk hbk HF0 HB0
         by_cases hkl:k<oa2
         ·skip
          have k1:(0:Int)≤(k:Int):=by omega
          have k2:(k:Int)<(oa2:Nat):=by omega
          have hkr:k<(a.rates[i]'hia).length:=by rw[HRLA.out];exact hkl
          obtain⟨ts,as1,ls1,ks1,as2,ls2,ks2,g1,g2,g3,hfs⟩:=(HROWA.out.below HBW10.out).cellsAt (k:=k) hkr
          have hxe:(a.rates[i]'hia).getD k 0=rtQ a i k:=by unfold rtQ;rw[HRGA.out]
          rw[hxe]at hfs
          have HLX:Hid (zvg (rtQ a i k)):=zH (HLA.out.rt_lim (by rw[HMN.out];exact him) (by rw[HMN.out];exact hkl))
          obtain⟨qk,hqk⟩:∃z,k*n+j=z:=⟨_,rfl⟩
          have hqkN:qk<y2:=by rw[←hqk];exact Nat.lt_of_lt_of_le (zao hkl hjl) (Nat.le_of_eq HNE.out)
          have HQK:=zH hqk
          have HSTEP:Hid (bf1 a b i j k qk-rtQ a i k=bf1 a b i j (k+1) qk):=zH (by
           have h:=bf1_step HLA.out (Nat.lt_of_lt_of_eq him HMN.out.symm) (Nat.lt_of_lt_of_eq hjl HNN.out.symm) (a:=a) (b:=b) (i:=i) (j:=j) (k:=k)
           rw[HNN.out,hqk]at h
           exact h)
          have HOTH:Hid (∀c,c<y2→c≠qk→bf1 a b i j k c=bf1 a b i j (k+1) c):=zH (fun c _ hc=>bf1_other (Nat.lt_of_lt_of_eq hjl HNN.out.symm) (a:=a) (b:=b) (i:=i) (j:=j) (k:=k) (c:=c) (by rw[HNN.out,hqk];exact hc))
          have HFTS:Hid (fits (bf1 a b i j k qk)∧fits (bf1 a b i j (k+1) qk)):=zH ⟨bf1_fits HLA.out HLB.out (by rw[HMN.out];exact him) (by rw[HNN.out];exact hjl) (by rw[HBN.out];exact hqkN),bf1_fits HLA.out HLB.out (by rw[HMN.out];exact him) (by rw[HNN.out];exact hjl) (by rw[HBN.out];exact hqkN)⟩
          obtain⟨x,hx⟩:∃x,rtQ a i k=x:=⟨_,rfl⟩
          rw[hx]at hfs HLX HSTEP
          obtain⟨pk,hpk⟩:∃z,k*n=z:=⟨_,rfl⟩
          have hwk1:IntKind.i64.wrap ((k:Int)*(n:Int))=(pk:Nat):=by
           have e:((k:Int)*(n:Int))=((pk:Nat):Int):=by rw[←hpk,Int.natCast_mul]
           rw[e]
           exact zge (Int.natCast_nonneg _) (Int.le_trans (Int.ofNat_le.2 (Nat.le_trans (by rw[←hqk,←hpk];exact Nat.le_add_right _ _) (Nat.le_of_lt hqkN))) (Int.le_trans (Int.ofNat_le.2 hN16) (by decide)))
          have hwk2:IntKind.i64.wrap ((pk:Int)+(j:Int))=(qk:Nat):=by
           have e:((pk:Int)+(j:Int))=((qk:Nat):Int):=by rw[←hqk,←hpk];exact(Int.natCast_add _ _).symm
           rw[e]
           exact zge (Int.natCast_nonneg _) (Int.le_trans (Int.ofNat_le.2 (Nat.le_of_lt hqkN)) (Int.le_trans (Int.ofNat_le.2 hN16) (by decide)))
          have HWK1:=zH hwk1
          have HWK2:=zH hwk2
          have iqk1:(0:Int)≤(qk:Int):=Int.natCast_nonneg qk
          have iqk2:(qk:Int)<(y2:Nat):=Int.ofNat_lt.2 hqkN
          have hb11:=zca w10 (.cells #[.bool ts, .slice as1 ls1 ks1, .slice as2 ls2 ks2] 32)
          have HC11:=zH (C3.new w10 32 (.bool ts) (.slice as1 ls1 ks1) (.slice as2 ls2 ks2))
          have HF11:=zH (hfs.below hb11)
          have HR11:=zH (HRK.out.moves (zhb.below (B:=w8.heap.size) hb11) (Nat.le_refl _))
          have HB11:=zH (zfa HBK.out hb11 HBK.out.size)
          obtain⟨b11,hb11e⟩:∃b,w10.heap.size=b:=⟨_,rfl⟩
          have HBE:=zH hb11e
          have HQN2:=zH hqkN
          clear hx hxe hfs hb11 hb11e HRK HBK HBW10 hpk hqk hwk1 hwk2 hqkN
          go_upto_region 24 with fail
          clear g1 g2 g3
          rw[HBE.out]at HC11 ⊢
          clear HBE
          generalize w10.alloc (.cells #[.bool ts, .slice as1 ls1 ks1, .slice as2 ls2 ks2] 32)=W11 at *
          have hbD:=zja (B:=W11.heap.size) W11
          have HFD:=zH (HF11.out.below hbD)
          have hrD:=HR11.out.moves (zhb.below (B:=w8.heap.size) hbD) (Nat.le_refl _)
          have HBD:=zH (zfa HB11.out hbD HB11.out.size)
          have hqrl:qk<(zib y2 (bf1 a b i j k)).length:=by rw[zea];exact HQN2.out
          obtain⟨us,bs1,ms1,ls1',bs2,ms2,ls2',z0,z1,z2,hfz⟩:=hrD.fracs.cellsAt (k:=qk) hqrl
          have hze:(zib y2 (bf1 a b i j k)).getD qk 0=bf1 a b i j k qk:=by rw[List.getD_eq_getElem?_getD,List.getElem?_eq_getElem hqrl,Option.getD_some,ztb]
          rw[hze]at hfz
          have HFZ:=zH hfz
          have HRD:=zH hrD
          obtain⟨-,d0,d1,d2,-,-,-⟩:=HC11.out.belowS hbD
          refine wpN.start [17] (fun w'=>w'.cell? ⟨b11,0,none⟩=some (.bool ts)∧w'.cell? ⟨b11,1,none⟩=some (.slice as1 ls1 ks1)∧w'.cell? ⟨b11,2,none⟩=some (.slice as2 ls2 ks2)∧w'.cell? (ptr (.slice y1 y2 y3) (qk*3))=some (.bool us)∧w'.cell? (ptr (.slice y1 y2 y3) (qk*3+1))=some (.slice bs1 ms1 ls1')∧w'.cell? (ptr (.slice y1 y2 y3) (qk*3+2))=some (.slice bs2 ms2 ls2')) (by kernel_rfl) ⟨d0,d1,d2,z0,z1,z2⟩ (fun hHeld=> ?_)
          clear hbD hrD hfz hze d0 d1 d2 z0 z1 z2 HR11 HB11 HF11 HC11
          generalize W11.drew=wd at *
          refine wpN.t 0 ?_
          refine wpN.t 1 ?_
          refine wpN.t 2 ?_
          refine wpN.t 3 ?_
          try rw[HWK1.out]
          refine wpN.t 4 ?_
          refine wpN.t 5 ?_
          try rw[HWK2.out]
          refine wpN.t 6 ?_
          refine wpN.t 7 ?_
          refine wpN.t 8 ?_
          refine wpN.t 9 ?_
          try rw[HWK1.out]
          refine wpN.t 10 ?_
          refine wpN.t 11 ?_
          try rw[HWK2.out]
          refine wpN.t 12 ?_
          refine wpN.t 13 ?_
          refine wpN.t 14 ?_
          (refine wpN.oo 15 ?_;intro K hK)
          refine zxa 26 #[.agg #[.bool us, .slice bs1 ms1 ls1', .slice bs2 ms2 ls2'], .agg #[.bool ts, .slice as1 ls1 ks1, .slice as2 ls2 ks2]] ?_ ?_ (zyi _ _ (bf1 a b i j k qk) x wd HFZ.out HFD.out HFTS.out.1 HLX.out.fits (by rw[HSTEP.out];exact HFTS.out.2)) ?_
          ·rfl
          ·go_simp
          rw[HSTEP.out]
          rintro e6 w13 ⟨v6,rfl,hv6,hb6⟩
          obtain⟨t6,x6,y6,rfl,⟨a61,l61,k61,rfl,_⟩,⟨a62,l62,k62,rfl,_⟩⟩:=hv6.isF
          refine⟨_,rfl,?_⟩
          replace hHeld:=keep6x hHeld hb6
          refine hK.out _ _ (fun _=>hHeld) ?_
          clear hK K
          try simp only[Act.put,List.setIfInBounds_toArray,List.set_cons_zero,List.set_cons_succ]
          have hF13:=HRD.out.moves (zhb.below (B:=w8.heap.size) hb6) (Nat.le_refl _)
          have hB13:=zfa HBD.out hb6 HBD.out.size
          have hql0:0<(zib y2 (bf1 a b i j k)).length:=Nat.lt_of_le_of_lt (Nat.zero_le qk) hqrl
          refine wpN.t 16 ?_
          have f0:=hF13.frozen (qk*3) (by omega)
          have f1:=hF13.frozen (qk*3+1) (by omega)
          have f2:=hF13.frozen (qk*3+2) (by omega)
          have n01:=hF13.inj hql0 (show qk*3≠qk*3+1 by omega)
          have n02:=hF13.inj hql0 (show qk*3≠qk*3+2 by omega)
          have n12:=hF13.inj hql0 (show qk*3+1≠qk*3+2 by omega)
          obtain⟨-,-,-,z0,z1,z2⟩:=id hHeld
          (refine wpN.oo 17 ?_;intro K hK)
          rw[if_pos (by rfl)]
          go_simp
          refine hK.out _ _ (fun h=>by cases h) ?_
          clear hK K hHeld f0 f1 f2 n01 n02 n12 z0 z1 z2
          refine wpN.done (by kernel_rfl) ?_ _
          have hput:=hF13.put hqrl hv6
          rw[zmk (g:=bf1 a b i j (k+1)) HOTH.out]at hput
          have HF2:=zH hput.1
          have HB2:=zH (hB13.trans (zna hput.2 hB13.size (fun k hk=>(hF13.block k hk).1)))
          clear hput hF13 hB13 hqrl hql0 hb6 hv6 HRD HFD HFZ HBD HSTEP HOTH HFTS HLX
          go_wp2_with fail
          go_roundg (oa2- (k+1))
          case measure=>(have:=HGK.out;omega)
          case rel=>exact⟨k+1,by omega,rfl,by go_num,HF2.out,HB2.out⟩
         ·obtain rfl:oa2=k:=by omega
          have hfm:zib y2 (bf1 a b i j oa2)=zib y2 (bf2 a b i j 0):=zdf (fun c hc=>by
           have e:=bf_meet (a:=a) (b:=b) (i:=i) (j:=j) (c:=c) (by rw[HBN.out];exact hc)
           rw[HMN.out]at e
           exact e)
          have HF1:Hid (zya w10 32 w8.heap.size (.slice y1 y2 y3) (zib y2 (bf2 a b i j 0))):=zH (by
           have h:=HRK.out
           rw[hfm]at h
           exact h)
          have HB1:=zH HBK.out
          clear hfm HRK HBK HGK
          obtain⟨-,d0,d1,d2,d3,-,-,-,-⟩:=HCB.out.belowS HBW10.out
          have hjb:j<b.rates.length:=by rw[HLB.out.rl,HNN.out];exact hjl
          obtain⟨rowb,hcb0,hrowb⟩:=HRB.out.at' j hjb
          obtain⟨ob1,ob2,ob3,rfl,_⟩:=id hrowb.sl
          have hrlb:(b.rates[j]'hjb).length=n:=(HLB.out.row j hjb).1.trans HNN.out
          obtain rfl:ob2=n:=hrowb.len.trans hrlb
          have HROWB:=zH hrowb
          have HRLB:=zH hrlb
          have srowb:=hrowb.sl
          have hcb0:=zba HBW10.out hcb0
          have HRGB:Hid (b.rates.getD j []=b.rates[j]'hjb):=zH (by rw[List.getD_eq_getElem?_getD,List.getElem?_eq_getElem hjb];rfl)
          clear hrowb hrlb
          go_wp2_with fail
          clear hcb0 d0 d1 d2 d3 HBW10
          go_loopg [119] (ob2) (fun g u119 wr=>∃ (k:Nat),k≤ob2∧g=ob2-k∧u119= .int .i64 k∧zya wr 32 w8.heap.size (.slice y1 y2 y3) (zib y2 (bf2 a b i j k))∧Below w8.heap.size w8 wr)
          case atStart=>exact⟨0,Nat.zero_le _,rfl,rfl,HF1.out,HB1.out⟩
          case round=>
           obtain⟨k,hkn,hgk,rfl,hrk,hbk⟩:=hrel
           obtain⟨w10,hw10⟩:∃wb,wb=wr:=⟨_,rfl⟩
           subst hw10
           have HGK:=zH hgk
           have HRK:=zH hrk
           have HBK:=zH hbk
           have HBW10:Hid (Below W2.heap.size W2 w10):=zH (HB5.out.trans ((zfa HBJ.out HBK.out HBJ.out.size).mono HLE.out))
           clear hgk hrk hbk HF1 HB1
           by_cases hkl:k<ob2
           ·skip
            have k1:(0:Int)≤(k:Int):=by omega
            have k2:(k:Int)<(ob2:Nat):=by omega
            have hkr:k<(b.rates[j]'hjb).length:=by rw[HRLB.out];exact hkl
            obtain⟨ts,as1,ls1,ks1,as2,ls2,ks2,g1,g2,g3,hfs⟩:=(HROWB.out.below HBW10.out).cellsAt (k:=k) hkr
            have hxe:(b.rates[j]'hjb).getD k 0=rtQ b j k:=by unfold rtQ;rw[HRGB.out]
            rw[hxe]at hfs
            have HLX:Hid (zvg (rtQ b j k)):=zH (HLB.out.rt_lim (by rw[HNN.out];exact hjl) (by rw[HNN.out];exact hkl))
            obtain⟨qk,hqk⟩:∃z,i*ob2+k=z:=⟨_,rfl⟩
            have hqkN:qk<y2:=by rw[←hqk];exact Nat.lt_of_lt_of_le (zao him hkl) (Nat.le_of_eq HNE.out)
            have HQK:=zH hqk
            have HSTEP:Hid (bf2 a b i j k qk-rtQ b j k=bf2 a b i j (k+1) qk):=zH (by
             have h:=bf2_step HLB.out (Nat.lt_of_lt_of_eq hjl HNN.out.symm) (Nat.lt_of_lt_of_eq hkl HNN.out.symm) (a:=a) (b:=b) (i:=i) (j:=j) (k:=k)
             rw[HNN.out,hqk]at h
             exact h)
            have HOTH:Hid (∀c,c<y2→c≠qk→bf2 a b i j k c=bf2 a b i j (k+1) c):=zH (fun c _ hc=>bf2_other (a:=a) (b:=b) (i:=i) (j:=j) (k:=k) (c:=c) (by rw[HNN.out,hqk];exact hc))
            have HFTS:Hid (fits (bf2 a b i j k qk)∧fits (bf2 a b i j (k+1) qk)):=zH ⟨bf2_fits HLA.out HLB.out (by rw[HMN.out];exact him) (by rw[HNN.out];exact hjl) (by rw[HBN.out];exact hqkN),bf2_fits HLA.out HLB.out (by rw[HMN.out];exact him) (by rw[HNN.out];exact hjl) (by rw[HBN.out];exact hqkN)⟩
            obtain⟨x,hx⟩:∃x,rtQ b j k=x:=⟨_,rfl⟩
            rw[hx]at hfs HLX HSTEP
            obtain⟨pk,hpk⟩:∃z,i*ob2=z:=⟨_,rfl⟩
            have hwk1:IntKind.i64.wrap ((i:Int)*(ob2:Int))=(pk:Nat):=by
             have e:((i:Int)*(ob2:Int))=((pk:Nat):Int):=by rw[←hpk,Int.natCast_mul]
             rw[e]
             exact zge (Int.natCast_nonneg _) (Int.le_trans (Int.ofNat_le.2 (Nat.le_trans (by rw[←hqk,←hpk];exact Nat.le_add_right _ _) (Nat.le_of_lt hqkN))) (Int.le_trans (Int.ofNat_le.2 hN16) (by decide)))
            have hwk2:IntKind.i64.wrap ((pk:Int)+(k:Int))=(qk:Nat):=by
             have e:((pk:Int)+(k:Int))=((qk:Nat):Int):=by rw[←hqk,←hpk];exact(Int.natCast_add _ _).symm
             rw[e]
             exact zge (Int.natCast_nonneg _) (Int.le_trans (Int.ofNat_le.2 (Nat.le_of_lt hqkN)) (Int.le_trans (Int.ofNat_le.2 hN16) (by decide)))
            have HWK1:=zH hwk1
            have HWK2:=zH hwk2
            have iqk1:(0:Int)≤(qk:Int):=Int.natCast_nonneg qk
            have iqk2:(qk:Int)<(y2:Nat):=Int.ofNat_lt.2 hqkN
            have hb11:=zca w10 (.cells #[.bool ts, .slice as1 ls1 ks1, .slice as2 ls2 ks2] 32)
            have HC11:=zH (C3.new w10 32 (.bool ts) (.slice as1 ls1 ks1) (.slice as2 ls2 ks2))
            have HF11:=zH (hfs.below hb11)
            have HR11:=zH (HRK.out.moves (zhb.below (B:=w8.heap.size) hb11) (Nat.le_refl _))
            have HB11:=zH (zfa HBK.out hb11 HBK.out.size)
            obtain⟨b11,hb11e⟩:∃b,w10.heap.size=b:=⟨_,rfl⟩
            have HBE:=zH hb11e
            have HQN2:=zH hqkN
            clear hx hxe hfs hb11 hb11e HRK HBK HBW10 hpk hqk hwk1 hwk2 hqkN
            go_upto_region 29 with fail
            clear g1 g2 g3
            rw[HBE.out]at HC11 ⊢
            clear HBE
            generalize w10.alloc (.cells #[.bool ts, .slice as1 ls1 ks1, .slice as2 ls2 ks2] 32)=W11 at *
            have hbD:=zja (B:=W11.heap.size) W11
            have HFD:=zH (HF11.out.below hbD)
            have hrD:=HR11.out.moves (zhb.below (B:=w8.heap.size) hbD) (Nat.le_refl _)
            have HBD:=zH (zfa HB11.out hbD HB11.out.size)
            have hqrl:qk<(zib y2 (bf2 a b i j k)).length:=by rw[zea];exact HQN2.out
            obtain⟨us,bs1,ms1,ls1',bs2,ms2,ls2',z0,z1,z2,hfz⟩:=hrD.fracs.cellsAt (k:=qk) hqrl
            have hze:(zib y2 (bf2 a b i j k)).getD qk 0=bf2 a b i j k qk:=by rw[List.getD_eq_getElem?_getD,List.getElem?_eq_getElem hqrl,Option.getD_some,ztb]
            rw[hze]at hfz
            have HFZ:=zH hfz
            have HRD:=zH hrD
            obtain⟨-,d0,d1,d2,-,-,-⟩:=HC11.out.belowS hbD
            refine wpN.start [17] (fun w'=>w'.cell? ⟨b11,0,none⟩=some (.bool ts)∧w'.cell? ⟨b11,1,none⟩=some (.slice as1 ls1 ks1)∧w'.cell? ⟨b11,2,none⟩=some (.slice as2 ls2 ks2)∧w'.cell? (ptr (.slice y1 y2 y3) (qk*3))=some (.bool us)∧w'.cell? (ptr (.slice y1 y2 y3) (qk*3+1))=some (.slice bs1 ms1 ls1')∧w'.cell? (ptr (.slice y1 y2 y3) (qk*3+2))=some (.slice bs2 ms2 ls2')) (by kernel_rfl) ⟨d0,d1,d2,z0,z1,z2⟩ (fun hHeld=> ?_)
            clear hbD hrD hfz hze d0 d1 d2 z0 z1 z2 HR11 HB11 HF11 HC11
            generalize W11.drew=wd at *
            refine wpN.t 0 ?_
            refine wpN.t 1 ?_
            refine wpN.t 2 ?_
            refine wpN.t 3 ?_
            try rw[HWK1.out]
            refine wpN.t 4 ?_
            refine wpN.t 5 ?_
            try rw[HWK2.out]
            refine wpN.t 6 ?_
            refine wpN.t 7 ?_
            refine wpN.t 8 ?_
            refine wpN.t 9 ?_
            try rw[HWK1.out]
            refine wpN.t 10 ?_
            refine wpN.t 11 ?_
            try rw[HWK2.out]
            refine wpN.t 12 ?_
            refine wpN.t 13 ?_
            refine wpN.t 14 ?_
            (refine wpN.oo 15 ?_;intro K hK)
            refine zxa 26 #[.agg #[.bool us, .slice bs1 ms1 ls1', .slice bs2 ms2 ls2'], .agg #[.bool ts, .slice as1 ls1 ks1, .slice as2 ls2 ks2]] ?_ ?_ (zyi _ _ (bf2 a b i j k qk) x wd HFZ.out HFD.out HFTS.out.1 HLX.out.fits (by rw[HSTEP.out];exact HFTS.out.2)) ?_
            ·rfl
            ·go_simp
            rw[HSTEP.out]
            rintro e6 w13 ⟨v6,rfl,hv6,hb6⟩
            obtain⟨t6,x6,y6,rfl,⟨a61,l61,k61,rfl,_⟩,⟨a62,l62,k62,rfl,_⟩⟩:=hv6.isF
            refine⟨_,rfl,?_⟩
            replace hHeld:=keep6x hHeld hb6
            refine hK.out _ _ (fun _=>hHeld) ?_
            clear hK K
            try simp only[Act.put,List.setIfInBounds_toArray,List.set_cons_zero,List.set_cons_succ]
            have hF13:=HRD.out.moves (zhb.below (B:=w8.heap.size) hb6) (Nat.le_refl _)
            have hB13:=zfa HBD.out hb6 HBD.out.size
            have hql0:0<(zib y2 (bf2 a b i j k)).length:=Nat.lt_of_le_of_lt (Nat.zero_le qk) hqrl
            refine wpN.t 16 ?_
            have f0:=hF13.frozen (qk*3) (by omega)
            have f1:=hF13.frozen (qk*3+1) (by omega)
            have f2:=hF13.frozen (qk*3+2) (by omega)
            have n01:=hF13.inj hql0 (show qk*3≠qk*3+1 by omega)
            have n02:=hF13.inj hql0 (show qk*3≠qk*3+2 by omega)
            have n12:=hF13.inj hql0 (show qk*3+1≠qk*3+2 by omega)
            obtain⟨-,-,-,z0,z1,z2⟩:=id hHeld
            (refine wpN.oo 17 ?_;intro K hK)
            rw[if_pos (by rfl)]
            go_simp
            refine hK.out _ _ (fun h=>by cases h) ?_
            clear hK K hHeld f0 f1 f2 n01 n02 n12 z0 z1 z2
            refine wpN.done (by kernel_rfl) ?_ _
            have hput:=hF13.put hqrl hv6
            rw[zmk (g:=bf2 a b i j (k+1)) HOTH.out]at hput
            have HF2:=zH hput.1
            have HB2:=zH (hB13.trans (zna hput.2 hB13.size (fun k hk=>(hF13.block k hk).1)))
            clear hput hF13 hB13 hqrl hql0 hb6 hv6 HRD HFD HFZ HBD HSTEP HOTH HFTS HLX
            go_wp2_with fail
            go_roundg (ob2- (k+1))
            case measure=>(have:=HGK.out;omega)
            case rel=>exact⟨k+1,by omega,rfl,by go_num,HF2.out,HB2.out⟩
           ·obtain rfl:ob2=k:=by omega
            have hvr:zya w10 32 w8.heap.size (.slice y1 y2 y3) (zib y2 (bf2 a b i j ob2)):=HRK.out
            have hx10:=HXJ.out.below HBK.out
            have hqR:q/b.start.length=i∧q%b.start.length=j:=by
             rw[HNN.out,←HQE.out]
             exact⟨zbe hjl,zyf hjl⟩
            have hbfA:bf2 a b i j ob2=bfA a b q:=by
             unfold bfA
             rw[hqR.1,hqR.2,HNN.out]
            rw[hbfA]at hvr
            have hfR:exQ a i=bfR a b q:=by unfold bfR;rw[hqR.1]
            have hfS:stQ a i*stQ b j=bfS a b q:=by unfold bfS;rw[hqR.1,hqR.2]
            have hb5:=zfa HBJ.out HBK.out HBJ.out.size
            have hvr5:=hvr.mono (B':=w5.heap.size) HBJ.out.size
            have hn1:∀ (i:Nat) (hi:i<rs.length),rs[i].ownBlock=none∨rs[i].ownBlock≠(Value.slice y1 y2 y3).ownBlock:=fun i hi=>by
             cases hv:rs[i].ownBlock with
             | none=>exact Or.inl rfl
             | some g=>
               refine Or.inr fun e=> ?_
               have h1:=((HXJ.out.t.row i hi).block g hv).2
               have h2:=(hvr.block g e.symm).1
               omega
            have hn2:(Value.slice y1 y2 y3).ownBlock=none∨(Value.slice y1 y2 y3).ownBlock≠u9.ownBlock:=by
             cases hv:(Value.slice y1 y2 y3).ownBlock with
             | none=>exact Or.inl rfl
             | some g=>
               refine Or.inr fun e=> ?_
               have h1:=(HXJ.out.r.block g e.symm).2
               have h2:=(hvr.block g hv).1
               omega
            have hn3:(Value.slice y1 y2 y3).ownBlock=none∨(Value.slice y1 y2 y3).ownBlock≠u10.ownBlock:=by
             cases hv:(Value.slice y1 y2 y3).ownBlock with
             | none=>exact Or.inl rfl
             | some g=>
               refine Or.inr fun e=> ?_
               have h1:=(HXJ.out.s.block g e.symm).2
               have h2:=(hvr.block g hv).1
               omega
            have HVR:=zH hvr5
            have HX10:=zH hx10
            have HB5:=zH hb5
            have HN:=zH (And.intro hn1 (And.intro hn2 hn3))
            have HFE:=zH (And.intro hfR hfS)
            clear hvr hx10 hqR hbfA hfR hfS hb5 hvr5 hn1 hn2 hn3 HRK HBK HXJ HBJ
            go_upto_region 31 with fail
            have hbD:=zja (B:=w10.heap.size) w10
            have hWD:=zaa HBW10.out hbD
            obtain⟨-,c0,c1,c2,c3,-,-,-,-⟩:=HCA.out.belowS hWD
            obtain⟨-,d0,d1,d2,d3,-,-,-,-⟩:=HCB.out.belowS hWD
            obtain⟨te,e11,e12,e13,e21,e22,e23,r0,r1,r2,hfe⟩:=(HEA.out.below hWD).cellsAt (k:=i) (by rw[HLA.out.el,HMN.out];exact him)
            obtain⟨ta,s11,s12,s13,s21,s22,s23,s0,s1,s2,hfa⟩:=(HSA.out.below hWD).cellsAt (k:=i) (by rw[HMN.out];exact him)
            obtain⟨tb,b11,b12,b13,b21,b22,b23,v0,v1,v2,hfb⟩:=(HSB.out.below hWD).cellsAt (k:=j) (by rw[HNN.out];exact hjl)
            have HEF:Hid (zqa w10.drew (.agg #[.bool te, .slice e11 e12 e13, .slice e21 e22 e23]) (bfR a b q)):=zH (by rw[←HFE.out.1];exact hfe)
            have HAF:Hid (zqa w10.drew (.agg #[.bool ta, .slice s11 s12 s13, .slice s21 s22 s23]) (stQ a i)):=zH hfa
            have HBF:Hid (zqa w10.drew (.agg #[.bool tb, .slice b11 b12 b13, .slice b21 b22 b23]) (stQ b j)):=zH hfb
            have HLM:Hid (zvg (stQ a i)∧zvg (stQ b j)):=zH ⟨HLA.out.st_lim (by rw[HMN.out];exact him),HLB.out.st_lim (by rw[HNN.out];exact hjl)⟩
            have HXD:=zH (HX10.out.below hbD)
            have HVD:=zH (HVR.out.moves (zhb.below (B:=w5.heap.size) hbD) (Nat.le_refl _))
            have HBD:=zH (zfa HB5.out hbD HB5.out.size)
            refine wpL.start 24 (fun w'=>w'.cell? ⟨w.heap.size,3,none⟩=some (.slice ea oa2 eka)∧w'.cell? (ptr (.slice ea oa2 eka) (i*3))=some (.bool te)∧w'.cell? (ptr (.slice ea oa2 eka) (i*3+1))=some (.slice e11 e12 e13)∧w'.cell? (ptr (.slice ea oa2 eka) (i*3+2))=some (.slice e21 e22 e23)∧
             w'.cell? ⟨w.heap.size,1,none⟩=some (.slice sa oa2 ska)∧w'.cell? (ptr (.slice sa oa2 ska) (i*3))=some (.bool ta)∧w'.cell? (ptr (.slice sa oa2 ska) (i*3+1))=some (.slice s11 s12 s13)∧w'.cell? (ptr (.slice sa oa2 ska) (i*3+2))=some (.slice s21 s22 s23)∧
             w'.cell? ⟨w.heap.size+1,1,none⟩=some (.slice sb ob2 skb)∧w'.cell? (ptr (.slice sb ob2 skb) (j*3))=some (.bool tb)∧w'.cell? (ptr (.slice sb ob2 skb) (j*3+1))=some (.slice b11 b12 b13)∧w'.cell? (ptr (.slice sb ob2 skb) (j*3+2))=some (.slice b21 b22 b23)) (by kernel_rfl) ⟨c3,r0,r1,r2,c1,s0,s1,s2,d1,v0,v1,v2⟩ (fun hHeld=> ?_)
            clear c0 c1 c2 c3 d0 d1 d2 d3 r0 r1 r2 s0 s1 s2 v0 v1 v2 hfe hfa hfb hbD hWD HX10 HVR HB5 HBW10
            generalize w10.drew=wd at *
            refine wpL.u 0 ?_
            refine wpL.u 1 ?_
            refine wpL.u 2 ?_
            refine wpL.u 3 ?_
            refine wpL.u 4 ?_
            refine wpL.u 5 ?_
            refine wpL.u 6 ?_
            refine wpL.t 7 ?_
            refine wpL.t 8 ?_
            refine wpL.t 9 ?_
            refine wpL.t 10 ?_
            refine wpL.t 11 ?_
            refine wpL.t 12 ?_
            refine wpL.t 13 ?_
            refine wpL.t 14 ?_
            refine wpL.t 15 ?_
            refine wpL.t 16 ?_
            refine wpL.t 17 ?_
            refine wpL.t 18 ?_
            refine wpL.t 19 ?_
            refine wpL.t 20 ?_
            refine wpL.t 21 ?_
            (refine wpL.oo 22 ?_;intro K hK)
            refine zxa 27 #[.agg #[.bool ta, .slice s11 s12 s13, .slice s21 s22 s23], .agg #[.bool tb, .slice b11 b12 b13, .slice b21 b22 b23]] ?_ ?_ (zmp _ _ (stQ a i) (stQ b j) wd HAF.out HBF.out HLM.out.1.fits HLM.out.2.fits (lim_mul HLM.out.1 HLM.out.2)) ?_
            ·rfl
            ·go_simp
            rw[HFE.out.2]
            rintro e22 w22 ⟨v22,rfl,hv22,hb22⟩
            obtain⟨t22,x22,y22,rfl,⟨a221,l221,k221,rfl,_⟩,⟨a222,l222,k222,rfl,_⟩⟩:=hv22.isF
            refine⟨_,rfl,?_⟩
            replace hHeld:=keep12x hHeld hb22
            refine hK.out _ _ (fun _=>hHeld) ?_
            clear hK K
            try simp only[Act.put,List.setIfInBounds_toArray,List.set_cons_zero,List.set_cons_succ]
            have hx22:=HXD.out.below hb22
            have hr22:=HVD.out.moves (zhb.below (B:=w5.heap.size) hb22) (Nat.le_refl _)
            have hqr:q<rs.length:=by rw[hx22.t.rl];exact HQN.out
            have m0:=hx22.t.own.cell q hqr
            have mf:=hx22.t.own.frozen q hqr
            obtain⟨X1,hX1⟩:∃X,w22.setCell (ptr vM q) (.slice y1 y2 y3)=X:=⟨_,rfl⟩
            obtain⟨X2,hX2⟩:∃X,((X1.setCell (ptr u9 (q*3)) (.bool te)).setCell (ptr u9 (q*3+1)) (.slice e11 e12 e13)).setCell (ptr u9 (q*3+2)) (.slice e21 e22 e23)=X:=⟨_,rfl⟩
            obtain⟨X3,hX3⟩:∃X,((X2.setCell (ptr u10 (q*3)) (.bool t22)).setCell (ptr u10 (q*3+1)) (.slice a221 l221 k221)).setCell (ptr u10 (q*3+2)) (.slice a222 l222 k222)=X:=⟨_,rfl⟩
            obtain⟨p1,p2,p3,p4⟩:=hx22.putE (k:=q) HQN.out hr22 HN.out.1 HN.out.2.1 HN.out.2.2 (HEF.out.below hb22) hv22 hX1 hX2 hX3
            have HX1:=zH hX1
            have HX2:=zH hX2
            have HX3:=zH hX3
            have HP1:=zH p1
            have HP2:=zH ((zfa HBD.out hb22 HBD.out.size).trans p2)
            have HP3:=zH p3
            have HP4:=zH p4
            clear p1 p2 p3 p4 hX1 hX2 hX3 hx22 hr22 HXD HVD HEF HAF HBF hv22 hb22 HBD
            (refine wpL.oo 23 ?_;intro K hK)
            rw[if_pos (by rfl)]
            go_simp
            refine hK.out _ _ (fun _=>hHeld) ?_
            clear hK K
            try simp only[Act.put,List.setIfInBounds_toArray,List.set_cons_zero,List.set_cons_succ]
            (refine wpL.oo 24 ?_;intro K hK)
            rw[if_pos (by rfl)]
            go_simp
            refine hK.out _ _ (fun h=>by first | cases h | simp at h) ?_
            clear hK K hHeld m0 mf
            try simp only[Act.put,List.setIfInBounds_toArray,List.set_cons_zero,List.set_cons_succ]
            rw[HX1.out]
            obtain⟨q0,q1,q2,z0,z1,z2,f0,f1,f2,n01,n02,n12⟩:=HP3.out.slots HQN.out
            (refine wpL.oo 25 ?_;intro K hK)
            rw[if_pos (by rfl)]
            go_simp
            refine hK.out _ _ (fun h=>by first | cases h | simp at h) ?_
            clear hK K
            try simp only[Act.put,List.setIfInBounds_toArray,List.set_cons_zero,List.set_cons_succ]
            (refine wpL.oo 26 ?_;intro K hK)
            rw[if_pos (by rfl)]
            go_simp
            refine hK.out _ _ (fun h=>by first | cases h | simp at h) ?_
            clear hK K z0 z1 z2 f0 f1 f2 n01 n02 n12
            try simp only[Act.put,List.setIfInBounds_toArray,List.set_cons_zero,List.set_cons_succ]
            rw[HX2.out]
            obtain⟨q0,q1,q2,z0,z1,z2,f0,f1,f2,n01,n02,n12⟩:=HP4.out.slots HQN.out
            (refine wpL.oo 27 ?_;intro K hK)
            rw[if_pos (by rfl)]
            go_simp
            refine hK.out _ _ (fun h=>by first | cases h | simp at h) ?_
            clear hK K
            try simp only[Act.put,List.setIfInBounds_toArray,List.set_cons_zero,List.set_cons_succ]
            (refine wpL.oo 28 ?_;intro K hK)
            rw[if_pos (by rfl)]
            go_simp
            refine hK.out _ _ (fun h=>by first | cases h | simp at h) ?_
            clear hK K z0 z1 z2 f0 f1 f2 n01 n02 n12
            refine wpL.done (by kernel_rfl) ?_ _
            rw[HX3.out]
            go_wp2_with fail
            go_roundg (ob2- (j+1))
            case measure=>(have:=HGJ.out;omega)
            case rel=>
             have e:i*ob2+(j+1)=q+1:=by rw[←HQE.out];rfl
             have hj1:j+1≤ob2:=hjl
             have hbx:BX X3 w5.heap.size vM (rs.set q (.slice y1 y2 y3)) y2 (fun r=>if r<q+1 then zib y2 (bfA a b r)else []) u9 (bfR a b) u10 (bfS a b) (q+1):=by
              have h:=HP1.out
              exact⟨h.t.congr (fun r hr=>by
               by_cases h1:r=q
               ·subst h1
                rw[if_pos rfl,if_pos (Nat.lt_succ_self r)]
               ·rw[if_neg h1]
                by_cases h2:r<q
                ·rw[if_pos h2,if_pos (Nat.lt_succ_of_lt h2)]
                ·rw[if_neg h2,if_neg (fun h3=>h1 (Nat.le_antisymm (Nat.lt_succ_iff.1 h3) (Nat.not_lt.1 h2)))]),h.r,h.s,h.nr,h.ns,h.rs,h.sz⟩
             have hnum:Value.int IntKind.i64 ((j:Int)+1)=Value.int IntKind.i64 ((j+1:Nat):Int):=by go_num
             refine⟨j+1,rs.set q (.slice y1 y2 y3),hj1,rfl,hnum,?_,?_⟩
             ·rw[e]
              exact hbx
             ·exact HP2.out
     ·obtain rfl:n=j:=by omega
      go_wp2_with fail
      go_roundg (m- (i+1))
      case measure=>(have:=HG.out;omega)
      case rel=>
       have e:(i+1)*n=i*n+n:=Nat.succ_mul i n
       refine⟨i+1,rs,by omega,rfl,by go_num,?_,HBJ.out⟩
       rw[e]
       exact HXJ.out
   ·obtain rfl:m=i:=by omega
    have hx:=HX.out
    rw[HNE.out]at hx
    have HMT:Hid (zam wb vM N N (bfA a b)):=zH (hx.matF (fun r hr=>if_pos hr))
    have HRV:Hid (zbb wb u9 (zib N (bfR a b))):=zH (hx.r.frRow (fun j hj=>hj)).fracs
    have HSV:Hid (zbb wb u10 (zib N (bfS a b))):=zH (hx.s.frRow (fun j hj=>hj)).fracs
    have HSYS:Hid (SysOk N (bfA a b) (bfR a b) (zyg a b)):=zH (by have h:=HP.out.sys;rwa[HBN.out]at h)
    have HSC:Hid (∀w0 v1 v2,zbb w0 v1 (zib N (bfS a b))→zbb w0 v2 (zib N (zyg a b))→Calls Try.prog 29 #[v1,v2, .int .i64 1] w0 (RF0 w0 (befQ a b))):=zH (fun w0 v1 v2 h1 h2=>by
     have h:=zkm v1 v2 (zib N (bfS a b)) (zib N (zyg a b)) 1 w0 h1 h2 (by have h:=HP.out.sca;rwa[HBN.out]at h)
     have e:zvn (zib N (bfS a b)) (zib N (zyg a b)) (zib N (bfS a b)).length*fq false 1 1=befQ a b:=by
      unfold befQ
      rw[zea,HBN.out]
     rw[e]at h
     exact h)
    have HTB:=zH (HT.out.belowS HBW8.out)
    have HWB:=zH (zaa HBW.out HBW8.out)
    obtain⟨r1,r2,r3,rfl,_⟩:=id slR
    obtain⟨s1,s2,s3,rfl,_⟩:=id slS
    clear hx HX HBR HBW8 HCA HCB HT HBW HA HB HRA HRB HSA HSB HEA
    go_wp2_with (first
     |(go_at_call 28;(with_reducible refine(solve_reg _ _ N (bfA a b) (bfR a b) (zyg a b) _ HMT.out HRV.out HSYS.out).mono ?_);rintro e9 w9 ⟨v9,rfl,hv9,hb9,hn9⟩
       obtain⟨p1,p2,p3,rfl,_⟩:=id hv9.sl
       have HX9:=zH hv9
       have HS9:=zH (HSV.out.below hb9)
       have HT9:=zH (HTB.out.belowS hb9)
       have HB9:=zH (zaa HWB.out hb9)
       clear hv9 hb9 hn9)
     |(go_at_call 29;(with_reducible refine(HSC.out _ _ _ HS9.out HX9.out).mono ?_);rintro e8 w8 ⟨v8,rfl,hv8,hb8⟩
       obtain⟨t9,x9,y9,rfl,⟨a91,l91,k91,rfl,_⟩,⟨a92,l92,k92,rfl,_⟩⟩:=hv8.isF
       have HT8:=zH (HT9.out.belowS hb8)
       have HB8:=zH (zaa HB9.out hb8)
       have HV8:=zH hv8
       obtain⟨-,d0,d1,d2,f0,f1,f2⟩:=HT8.out
       clear hv8 hb8))
    refine zoa rfl rfl Try.aggF Try.sizeF (HT8.out.set _ _ _) rfl ?_
    exact⟨_,rfl,HV8.out.set3 HT8.out (fun z=>by simp) (fun z=>by simp) _ _ _,zga HB8.out (Nat.le_trans (Nat.le_succ _) (Nat.le_succ _)) _ _ _⟩
end Go.Proofs.Ytlpdkbmmbdfoiaa
