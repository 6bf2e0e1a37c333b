/- Lemmas. -/
import Derived.Test.YtlpdkbmmbdfoiaaGreatELi9
set_option linter.unusedVariables false
set_option linter.unusedSimpArgs false
namespace Go.Proofs.YtlpdkbmmbdfoiaaGreat
set_option maxRecDepth 100000
open Go.RowKit
def RRight (w0:World) (n c:Nat) (S:St) (e:Ending) (w:World):Prop:=
 ∃v er,e= .returned (.tuple #[v, .int .i64 er])/\Below w0.heap.size w0 w/\(S.r<n->v= .slice none 0 0/\er=9)/\(¬S.r<n->er=0/\zam w v n c (fun i j=>S.A i (n+j)/S.A i i))
theorem hrowI {w:World} {T n m wd rk:Nat} {vR:Value} {rs:List Value} {A:Mx} {d:Rat} (h:znd w T vR rs n m A wd rk d) {i:Nat} (hi:i<rs.length):zbb w rs[i] (zib m (A i)):=(h.row i hi).fracs
theorem zbb.cast {w:World} {a b c:Value} {n m:Nat} {q:List Rat} (h:zbb w (cut 3 a n (slen a)) q) (hab:a=b) (hl:slen b=m) (hc:cut 3 b n m=c):zbb w c q:=by
 rw[hab,hl,hc]at h;exact h
set_option maxHeartbeats 6400000 in
theorem right_lin (va:Value) (bd:Addr) (bn bc:Nat) (n c:Nat) (A Bm:Mx) (w:World) (ha:zam w va n n A) (hb:zam w (.slice (some bd) bn bc) n c Bm) (hn1:1<=n) (hn:n<=24) (hc1:1<=c) (hc:c<=24)
 (hX:slimE false n (n+c) n (zpa n A Bm)) (hq:∀i,i<n->(elim false n (zpa n A Bm) n).r=n->(elim false n (zpa n A Bm) n).A i i≠0/\∀j,j<c->fits ((elim false n (zpa n A Bm) n).A i (n+j)/(elim false n (zpa n A Bm) n).A i i)):
 Calls Tryz.prog 169 #[va, .slice (some bd) bn bc] w (RRight w n c (elim false n (zpa n A Bm) n)):=by
 obtain⟨i3,hi3,hz3,hs3,hy3⟩:=info_parts Tryz.infoF
 have hAP:=fun{ops:Array Oper} {o:Oper} {a:Act} {w:World} {K:Act->World->Prop} {Q:Exit->Act->World->Prop} {E:Prop}=>zcg (P:=Tryz.prog) 25 38 i3 Tryz.underlying25 hi3 hz3 hs3 hy3 (ops:=ops) (o:=o) (a:=a) (w:=w) (K:=K) (Q:=Q) (E:=E)
 obtain⟨i4,hi4,hz4,hs4,hy4⟩:=info_parts Tryz.infoRow
 have hMR:=zbi (P:=Tryz.prog) 24 25 i4 Tryz.underlying24 hi4 hz4 hs4 hy4
 clear hi3 hz3 hs3 hy3 hi4 hz4 hs4 hy4
 have sa:=ha.sl
 have la:=ha.len
 have HX:=zH hX
 have HQ:=zH hq
 have hrn:=(zue false n (zpa n A Bm) n).1
 obtain⟨⟨X,r,d⟩,hS⟩:∃S,elim false n (zpa n A Bm) n=S:=⟨_,rfl⟩
 rw[hS]at hrn hq |-
 dsimp only at hrn hq
 have HS:=zH hS
 have HQ:=zH hq
 have hfX:=(hX n (zLR _)).1
 rw[hS]at hfX
 have HFX:=zH hfX
 clear hX hq hS hfX
 go_enter Tryz.func169,Tryz.ntmps169
 go_wp2_with (first
  |(go_at_call 204;(with_reducible refine(begin_two va bd bn bc n n c A Bm _ ha hb hn1 (by omega) hn1 (by omega) hc1 (by omega)).mono ?_);rintro e3 w3 ⟨T,vR,rs,rfl,hb3,hT,hTw⟩)
  |(go_at_call 205;(with_reducible refine(zfm T vR rs n (n+c) (zpa n A Bm) n _ hT (by omega) (by omega) (by omega) HX.out).mono ?_);rintro e4 w4 ⟨rfl,hb4,rs4,hT4⟩
    rw[HS.out]at hT4
    dsimp only at hT4
    have hB4:Below w.heap.size w w4:=hb3.trans (hb4.mono hTw)
    obtain⟨d1,d2,d3,d4,d5,d6,t0,t1,t2,t3,t4,t5,t6,tF,tf⟩:=hT4.cells
    have HB4:=zH hB4
    have HT4:=zH hT4
    have ha4:=ha.below hB4
    have hslR:=hT4.own.sl
    have hlnR:slen vR=n:=by rw[hT4.own.len,hT4.rl]
    have hrs4:=hT4.rl
    have HRS:=zH hrs4
    clear tf t3 t4 t5 tF hT4 hb4 hT hB4 hb3 hTw ha4 hrs4
    by_cases hrk:r<n)
  |(refine hMR w4 rfl _ _ rfl w4.heap.size _ n rfl rfl rfl (by omega) (zLR _) ?_;intro vO w5 hO5 hb5
    have HO5:=zH (zrj.start hO5)
    have HB5:=zH hb5
    have slO:=hO5.sl
    have lnO:=hO5.len
    clear hO5 hb5))
 ·go_ret2
  exact⟨_,9,rfl,HB4.out,fun _=>⟨rfl,rfl⟩,fun h=>absurd hrk h⟩
 ·have hrn2:r=n:=by omega
  have HRN:=zH hrn2
  clear hrn2 hrk hrn t0 t1 t2 t6
  go_loopg [39] (n) (fun g u39 wr=>∃ (i:Nat) (rs:List Value),i<=n/\g=n-i/\u39= .int .i64 i/\zrj wr w4.heap.size vO rs n (fun k=>if k<i then zib c (fun j=>X k (n+j)/X k k)else [])/\Below w4.heap.size w4 wr)
  case atStart=>exact⟨0,_,zZL _,rfl,rfl,HO5.out.congr (fun i hi=>by rw[if_neg (by omega)]),HB5.out⟩
  case round=>
   obtain⟨i,rs,hin,hg,rfl,hO,hbr⟩:=hrel
   obtain⟨w2,hw2⟩:∃w2,w2=wr:=⟨_,rfl⟩
   subst hw2
   have HG:=zH hg
   have HO:=zH hO
   have HBR:=zH hbr
   have hT2:=HT4.out.below hbr
   obtain⟨d1,d2,d3,d4,d5,d6,t0,t1,t2,t3,t4,t5,t6,tF,tf⟩:=hT2.cells
   clear HO5 HB5 hg hbr tf t3 t4 t5 tF t2
   by_cases hil:i<n
   ·have hi4:i<rs4.length:=by rw[HRS.out];exact hil
    have c1:=hT2.own.cell i hi4
    have hrow:=hT2.row i hi4
    have slI:=hrow.sl
    have lnI:slen rs4[i]=n+c:=by rw[hrow.fracs.len,zea]
    have hdrop:=hrow.fracs.drop n (by rw[zea];omega)
    rw[lnI]at hdrop
    obtain⟨ci,hci⟩:∃ci,rs4[i]'hi4=ci:=⟨_,rfl⟩
    rw[hci]at c1 slI lnI hdrop
    have HCI:=zH hci
    have j1:(0:Int)<=(i:Int):=by omega
    have j2:(i:Int)<(n:Nat):=by omega
    have j3:(0:Int)<=(n:Int):=by omega
    have j4:(n:Int)<=((n+c:Nat):Int):=by omega
    obtain⟨vD,hvD⟩:∃vD,cut 3 ci n (n+c)=vD:=⟨_,rfl⟩
    have hcut:∀w':World,(Instr.slice 25 ci (some (.int .i64 (n:Nat))) none none).run Tryz.prog w'= .ok vD w':=fun w'=>by
     rw[zdm w' slI Tryz.underlying25 (by omega) (by rw[lnI];exact j4),show Tryz.prog.elem 25=38 from by kernel_rfl,Tryz.sizeF,Result.andThen_ok,Int.toNat_natCast,lnI,hvD]
    rw[hvD]at hdrop
    have HVD:=zH hvD
    have HDR:=zH hdrop
    have slD:=hdrop.sl
    have lnD:slen vD=c:=by rw[<-hvD,slI.slen_cut];omega
    have HFN:=zH (HQ.out i hil HRN.out)
    clear hT2 hrow hci hdrop hO hvD
    go_wp2_with fail
    have hbN:=zja (B:=w2.heap.size) w2
    have S1:=zH (And.intro t0 (And.intro t1 c1))
    go_region_held3 (fun w'=>w'.cell? ⟨T,0,none⟩=some vR/\w'.cell? ⟨T,1,none⟩=some (.int .i64 n)/\w'.cell? (ptr vR i)=some ci/\Below w2.heap.size w2 w') (with_reducible exact kp3a S1.out hbN) (fail)
    have HON:=zH (HO.out.below hbN)
    have HBN:=zH (zaa HBR.out hbN)
    have HDN:=zH (HDR.out.below hbN)
    clear hbN t0 t1 t6 c1
    go_wp2_with fail
    clear hcut
    go_loopg [55] (c) (fun g u55 wr=>∃ (j:Nat) (rs:List Value),j<=c/\g=c-j/\u55= .int .i64 j/\zrj wr w4.heap.size vO rs n (fun k=>if k<i then zib c (fun j=>X k (n+j)/X k k)else if k=i then zib j (fun j=>X i (n+j)/X i i)else [])/\Below w4.heap.size w4 wr/\zbb wr vD ((zib (n+c) (X i)).drop n))
    case atStart=>exact⟨0,_,zZL _,rfl,rfl,HON.out.congr (fun k hk=>by
     by_cases h1:k<i
     ·rw[if_pos h1,if_pos h1]
     ·rw[if_neg h1,if_neg h1];split<;>rfl),HBN.out,HDN.out⟩
    case round=>
     obtain⟨j,rs5,hjc,hgj,rfl,hOj,hbj,hDj⟩:=hrel
     obtain⟨w5,hw5⟩:∃w5,w5=wr:=⟨_,rfl⟩
     subst hw5
     have HGJ:=zH hgj
     have HOJ:=zH hOj
     have HBJ:=zH hbj
     have HDJ:=zH hDj
     clear HON HBN hgj
     by_cases hjl:j<c
     ·have hjd:j<((zib (n+c) (X i)).drop n).length:=by rw[List.length_drop,zea];omega
      obtain⟨ea,eb,g1,g2,g3,g4,g5⟩:=hDj.at' j hjd
      have hel:((zib (n+c) (X i)).drop n)[j]'hjd=X i (n+j):=by rw[List.getElem_drop,ztb]
      rw[hel]at g1 g4 g5
      obtain⟨ea1,ea2,ea3,rfl,_⟩:=g4.v.sl
      obtain⟨eb1,eb2,eb3,rfl,_⟩:=g5.v.sl
      have hbA:=zca w5 (.cells #[.bool (decide (X i (n+j)<0)), .slice ea1 ea2 ea3, .slice eb1 eb2 eb3] 38)
      have hbD:=zaa hbA (zja (B:=(w5.alloc (.cells #[.bool (decide (X i (n+j)<0)), .slice ea1 ea2 ea3, .slice eb1 eb2 eb3] 38)).heap.size) _)
      have hC:=(C3.new w5 38 (.bool (decide (X i (n+j)<0))) (.slice ea1 ea2 ea3) (.slice eb1 eb2 eb3)).belowS (zja _)
      have hi5:i<rs5.length:=by rw[hOj.rl];exact hil
      have hOD:=hOj.below hbD
      have hTD:=(HT4.out.below hbj).below hbD
      have s2:=hOD.own.cell i hi5
      obtain⟨o1,o2,o3,ho,_⟩:=(hOD.row i hi5).sl
      rw[ho]at s2
      obtain⟨_,_,_,_,_,_,s1,_⟩:=hTD.cells
      have s6:=hTD.own.cell i hi4
      obtain⟨fa,fb,s7,s8,s9,g6,g7⟩:=hTD.elem hi4 (show i<n+c by omega)
      rw[HCI.out]at s6 s7 s8 s9
      obtain⟨fa1,fa2,fa3,rfl,_⟩:=g6.v.sl
      obtain⟨fb1,fb2,fb3,rfl,_⟩:=g7.v.sl
      have HEI:=zH (show zqa w5 (.agg #[.bool (decide (X i (n+j)<0)), .slice ea1 ea2 ea3, .slice eb1 eb2 eb3]) (X i (n+j))from⟨_,_,rfl,g4,g5⟩)
      have HED:=zH (show zqa _ (.agg #[.bool (decide (X i i<0)), .slice fa1 fa2 fa3, .slice fb1 fb2 fb3]) (X i i)from⟨_,_,rfl,g6,g7⟩)
      obtain⟨_,s3,s4,s5,_,_,_⟩:=hC
      have HOD:=zH hOD
      have HBD:=zH hbD
      have HOO:=zH ho
      have j5:(0:Int)<=(j:Int):=by omega
      have j6:(j:Int)<(c:Nat):=by omega
      have j7:(i:Int)<(n:Int)+(c:Int):=by omega
      clear hOj hDj hOD hTD g4 g5 g6 g7 hbA hbD ho hbj
      go_wp2_with fail
      clear g1 g2 g3
      generalize w5.alloc (.cells #[.bool (decide (X i (n+j)<0)), .slice ea1 ea2 ea3, .slice eb1 eb2 eb3] 38)=w6 at *
      obtain⟨g10,hg10⟩:∃g10,w5.heap.size=g10:=⟨_,rfl⟩
      rw[hg10]at s3 s4 s5 |-
      refine wpN.start [24,25] (fun w'=>w'.cell? ⟨T,0,none⟩=some vR/\w'.cell? (ptr vO i)=some (.slice o1 o2 o3)/\w'.cell? ⟨g10,0,none⟩=some (.bool (decide (X i (n+j)<0)))/\w'.cell? ⟨g10,1,none⟩=some (.slice ea1 ea2 ea3)/\w'.cell? ⟨g10,2,none⟩=some (.slice eb1 eb2 eb3)/\w'.cell? (ptr vR i)=some ci/\w'.cell? (ptr ci (i*3))=some (.bool (decide (X i i<0)))/\w'.cell? (ptr ci (i*3+1))=some (.slice fa1 fa2 fa3)/\w'.cell? (ptr ci (i*3+2))=some (.slice fb1 fb2 fb3)) (by kernel_rfl) ⟨s1,s2,s3,s4,s5,s6,s7,s8,s9⟩ (fun hHeld=> ?_)
      refine wpN.t 0 ?_
      refine wpN.t 1 ?_
      refine wpN.t 2 ?_
      refine wpN.t 3 ?_
      refine wpN.t 4 ?_
      refine wpN.t 5 ?_
      refine wpN.t 6 ?_
      refine wpN.t 7 ?_
      refine wpN.t 8 ?_
      refine wpN.t 9 ?_
      refine wpN.t 10 ?_
      refine wpN.t 11 ?_
      refine wpN.t 12 ?_
      refine wpN.t 13 ?_
      refine wpN.t 14 ?_
      refine wpN.t 15 ?_
      refine wpN.t 16 ?_
      refine wpN.t 17 ?_
      (refine wpN.oo 18 ?_;intro K hK)
      refine zxa 161 #[.agg #[.bool (decide (X i (n+j)<0)), .slice ea1 ea2 ea3, .slice eb1 eb2 eb3], .agg #[.bool (decide (X i i<0)), .slice fa1 fa2 fa3, .slice fb1 fb2 fb3]] ?_ ?_ (quo_can _ _ (X i (n+j)) (X i i) _ (HEI.out.below HBD.out) HED.out (HFX.out i (n+j) hil (by omega)) (HFX.out i i hil (by omega)) HFN.out.1 (HFN.out.2 j hjl)) ?_
      ·rfl
      ·go_simp
      rintro e7' w7 ⟨v7,rfl,hv7,hb7⟩
      refine⟨_,rfl,?_⟩
      have hNew:(fun w'=>w'.cell? ⟨T,0,none⟩=some vR/\w'.cell? (ptr vO i)=some (.slice o1 o2 o3)/\w'.cell? ⟨g10,0,none⟩=some (.bool (decide (X i (n+j)<0)))/\w'.cell? ⟨g10,1,none⟩=some (.slice ea1 ea2 ea3)/\w'.cell? ⟨g10,2,none⟩=some (.slice eb1 eb2 eb3)/\w'.cell? (ptr vR i)=some ci/\w'.cell? (ptr ci (i*3))=some (.bool (decide (X i i<0)))/\w'.cell? (ptr ci (i*3+1))=some (.slice fa1 fa2 fa3)/\w'.cell? (ptr ci (i*3+2))=some (.slice fb1 fb2 fb3)) w7:=⟨zba hb7 s1,zba hb7 s2,zba hb7 s3,zba hb7 s4,zba hb7 s5,zba hb7 s6,zba hb7 s7,zba hb7 s8,zba hb7 s9⟩
      refine hK.out _ _ (fun _=>hNew) ?_
      clear hK K hHeld s1 s2 s3 s4 s5 s6 s7 s8 s9
      try simp only[Act.put,List.setIfInBounds_toArray,List.set_cons_zero,List.set_cons_succ]
      refine wpN.t 19 ?_
      refine wpN.t 20 ?_
      (refine wpN.oo 21 ?_;intro K hK)
      refine zxa 206 #[.pointer (some ⟨T,0,none⟩),v7, .int .i64 0] ?_ ?_ (zgh _ _ (X i (n+j)/X i i) _ hv7) ?_
      ·rfl
      ·go_simp
      rintro e8' w8 ⟨v8,rfl,hv8,hb8⟩
      obtain⟨t9,x9,y9,rfl,⟨a1,l91,k91,rfl,_⟩,⟨a2,l92,k92,rfl,_⟩⟩:=hv8.isF
      refine⟨_,rfl,?_⟩
      obtain⟨s1,s2,s3,s4,s5,s6,s7,s8,s9⟩:=hNew
      have hNew:(fun w'=>w'.cell? ⟨T,0,none⟩=some vR/\w'.cell? (ptr vO i)=some (.slice o1 o2 o3)/\w'.cell? ⟨g10,0,none⟩=some (.bool (decide (X i (n+j)<0)))/\w'.cell? ⟨g10,1,none⟩=some (.slice ea1 ea2 ea3)/\w'.cell? ⟨g10,2,none⟩=some (.slice eb1 eb2 eb3)/\w'.cell? (ptr vR i)=some ci/\w'.cell? (ptr ci (i*3))=some (.bool (decide (X i i<0)))/\w'.cell? (ptr ci (i*3+1))=some (.slice fa1 fa2 fa3)/\w'.cell? (ptr ci (i*3+2))=some (.slice fb1 fb2 fb3)) w8:=⟨zba hb8 s1,zba hb8 s2,zba hb8 s3,zba hb8 s4,zba hb8 s5,zba hb8 s6,zba hb8 s7,zba hb8 s8,zba hb8 s9⟩
      refine hK.out _ _ (fun _=>hNew) ?_
      clear hK K s1 s2 s3 s4 s5 s6 s7 s8 s9
      try simp only[Act.put,List.setIfInBounds_toArray,List.set_cons_zero,List.set_cons_succ]
      (refine wpN.oo 22 ?_;intro K hK)
      rw[if_pos (by rfl)]
      go_simp
      have hb9:=zca w8 (.cells #[.bool t9, .slice a1 l91 k91, .slice a2 l92 k92] 38)
      have hVB:=zjf.new w8 #[.bool t9, .slice a1 l91 k91, .slice a2 l92 k92] 38
      have hv9:=hv8.below hb9
      have hO9:=((HOD.out.below hb7).below hb8).below hb9
      have hB9:=zfa (zfa (zfa (zfa HBJ.out HBD.out (HBJ.out.size)) hb7 (zLT HBJ.out.size HBD.out.size)) hb8 (zLT (zLT HBJ.out.size HBD.out.size) hb7.size)) hb9 (zLT (zLT (zLT HBJ.out.size HBD.out.size) hb7.size) hb8.size)
      have hD9:=(((HDJ.out.below HBD.out).below hb7).below hb8).below hb9
      obtain⟨s1,s2,s3,s4,s5,s6,s7,s8,s9⟩:=hNew
      have hNew:(fun w'=>w'.cell? ⟨T,0,none⟩=some vR/\w'.cell? (ptr vO i)=some (.slice o1 o2 o3)/\w'.cell? ⟨g10,0,none⟩=some (.bool (decide (X i (n+j)<0)))/\w'.cell? ⟨g10,1,none⟩=some (.slice ea1 ea2 ea3)/\w'.cell? ⟨g10,2,none⟩=some (.slice eb1 eb2 eb3)/\w'.cell? (ptr vR i)=some ci/\w'.cell? (ptr ci (i*3))=some (.bool (decide (X i i<0)))/\w'.cell? (ptr ci (i*3+1))=some (.slice fa1 fa2 fa3)/\w'.cell? (ptr ci (i*3+2))=some (.slice fb1 fb2 fb3)) (w8.alloc (.cells #[.bool t9, .slice a1 l91 k91, .slice a2 l92 k92] 38)):=⟨zba hb9 s1,zba hb9 s2,zba hb9 s3,zba hb9 s4,zba hb9 s5,zba hb9 s6,zba hb9 s7,zba hb9 s8,zba hb9 s9⟩
      refine hK.out _ _ (fun _=>hNew) ?_
      clear hK K s1 s2 s3 s4 s5 s6 s7 s8 s9
      try simp only[Act.put,List.setIfInBounds_toArray,List.set_cons_zero,List.set_cons_succ]
      generalize hw9:w8.alloc (.cells #[.bool t9, .slice a1 l91 k91, .slice a2 l92 k92] 38)=w9 at *
      clear hw9
      have hro:=hO9.row i hi5
      rw[HOO.out,if_neg (Nat.lt_irrefl i),if_pos rfl]at hro
      have hlen9:(zib j (fun j=>X i (n+j)/X i i)).length<=1000:=by rw[zea];omega
      have hw49:w4.heap.size<=w9.heap.size:=hB9.size
      (refine wpN.oo 23 ?_;intro K hK)
      refine hAP rfl _ _ (by rfl) w4.heap.size (.slice o1 o2 o3) (zib j (fun j=>X i (n+j)/X i i)) (by rfl) hro (.bool t9) (.slice a1 l91 k91) (.slice a2 l92 k92) (X i (n+j)/X i i) hv9 w8.heap.size (by rfl) hVB hlen9 hw49 ?_
      intro v10 w10 hf10 hg10' hn10 ho10
      obtain⟨y1,y2,y3,rfl,_⟩:=id hf10.sl
      have far:∀ (p:Addr) (x:Value),w9.cell? p=some x->p.block<w4.heap.size->w10.cell? p=some x:=fun p x h hlt=>hg10'.cell h (fun e=>by have:=(hro.block _ e.symm).1;omega)
      have hnO:vO.ownBlock=none\/vO.ownBlock≠(Value.slice o1 o2 o3).ownBlock:=by
       obtain⟨ys,y1,y2⟩:=hro
       exact hO9.own.kinds y1 (by decide)
      have hown10:=hO9.own.grown hg10' hnO
      have q2':w10.cell? (ptr vO i)=some (.slice o1 o2 o3):=by rw[hown10.cell i hi5,HOO.out]
      have f2':=hown10.frozen i hi5
      have hgb:=(HOJ.out.row i hi5).block
      rw[HOO.out]at hgb
      have mid:∀ (k:Nat) (x:Value),w9.cell? ⟨g10,k,none⟩=some x->w10.cell? ⟨g10,k,none⟩=some x:=fun k x h=>hg10'.cell h (fun e=>by have:=(hgb _ e.symm).2;simp at this;omega)
      have bT:=HT4.out.lt
      have bR:(ptr vR i).block<w4.heap.size:=World.block_lt_of_cell? w4 _ (HT4.out.own.cell i hi4)
      have bC:∀k,(ptr ci k).block<w4.heap.size:=fun k=>by
       obtain⟨ga,gb,h7,_⟩:=HT4.out.elem hi4 (show i<n+c by omega)
       have:=World.block_lt_of_cell? w4 _ h7
       rw[HCI.out]at this
       rw[zsa]at this |-;exact this
      obtain⟨s1,s2,s3,s4,s5,s6,s7,s8,s9⟩:=hNew
      refine hK.out _ _ (fun _=>⟨far _ _ s1 bT,q2',mid _ _ s3,mid _ _ s4,mid _ _ s5,far _ _ s6 bR,far _ _ s7 (bC _),far _ _ s8 (bC _),far _ _ s9 (bC _)⟩) ?_
      clear hK K s1 s2 s3 s4 s5 s6 s7 s8 s9 far mid bT bR bC hgb
      try simp only[Act.put,List.setIfInBounds_toArray,List.set_cons_zero,List.set_cons_succ]
      (refine wpN.oo 24 ?_;intro K hK)
      rw[if_pos (by rfl)]
      go_simp
      refine hK.out _ _ (fun h=>by cases h) ?_
      clear hK K
      try simp only[Act.put,List.setIfInBounds_toArray,List.set_cons_zero,List.set_cons_succ]
      have hset:=hO9.set hi5 hw49 hf10 (by rw[HOO.out];exact hg10') (by rw[HOO.out];exact hn10) (by rw[HOO.out];exact ho10)
      have HSET:=zH hset
      have HB10:=zH (hB9.trans hset.2)
      have HD10:=zH (show zbb (w10.setCell (ptr vO i) (.slice y1 y2 y3)) vD ((zib (n+c) (X i)).drop n)from(((hrowI (HT4.out.below (hB9.trans hset.2)) hi4).drop n (by rw[zea];omega)).cast HCI.out lnI HVD.out))
      clear hset hnO hown10 hO9 hro hf10 hg10' hn10 ho10 hB9 hD9 hb9 hb8 hb7 hv9 hv8 hv7 hVB
      (refine wpN.oo 25 ?_;intro K hK)
      rw[if_pos (by rfl)]
      go_simp
      refine hK.out _ _ (fun h=>by cases h) ?_
      clear hK K q2' f2'
      refine wpN.done (by kernel_rfl) ?_ _
      go_wp2_with fail
      go_roundg (c- (j+1))
      case measure=>(have:=HGJ.out;omega)
      case rel=>exact⟨j+1,_,by omega,rfl,by go_num,HSET.out.1.congr (fun k hk=>by
       by_cases h1:k=i
       ·subst h1;rw[if_pos rfl,if_neg (Nat.lt_irrefl k),if_pos rfl,zlk]
       ·rw[if_neg h1]
        by_cases h2:k<i
        ·rw[if_pos h2,if_pos h2]
        ·rw[if_neg h2,if_neg h2,if_neg h1,if_neg h1]),HB10.out,HD10.out⟩
     ·obtain rfl:j=c:=by omega
      clear hOj hDj hbj
      go_wp2_with fail
      go_roundg (n- (i+1))
      case measure=>(have:=HG.out;omega)
      case rel=>exact⟨i+1,rs5,by omega,rfl,by go_num,HOJ.out.congr (fun k hk=>by
       by_cases h1:k<i
       ·rw[if_pos h1,if_pos (show k<i+1 by omega)]
       ·rw[if_neg h1]
        by_cases h2:k=i
        ·subst h2;rw[if_pos rfl,if_pos (show k<k+1 by omega)]
        ·rw[if_neg h2,if_neg (show ¬k<i+1 by omega)]),HBJ.out⟩
   ·obtain rfl:i=n:=by omega
    have HMF:Hid (zam w2 vO i c (fun k j=>X k (i+j)/X k k)):=zH ⟨HO.out.own.sl,HO.out.own.len,fun k hk=>by
     have hk2:k<rs.length:=by rw[HO.out.rl];exact hk
     refine⟨rs[k],HO.out.own.cell k hk2,?_⟩
     have h:=(HO.out.row k hk2).fracs
     rw[if_pos hk]at h;exact h⟩
    clear hO hT2
    go_wp2_with fail
    go_ret2
    exact⟨vO,0,rfl,zfa HB4.out HBR.out (HB4.out.size),fun h=>absurd h (by rw[HRN.out];exact Nat.lt_irrefl _),fun _=>⟨rfl,HMF.out⟩⟩
end Go.Proofs.YtlpdkbmmbdfoiaaGreat
