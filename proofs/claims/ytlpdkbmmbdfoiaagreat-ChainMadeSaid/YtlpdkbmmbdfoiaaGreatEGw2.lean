/- Lemmas. -/
import Derived.Test.YtlpdkbmmbdfoiaaGreatEQu
set_option linter.unusedVariables false
set_option linter.unusedSimpArgs false
namespace Go.Proofs.YtlpdkbmmbdfoiaaGreat
open Go.RowKit
def zuq (bs:List Bool) (k:Nat):List Nat:=(List.range k).filter fun i=>bs.getD i false
theorem zst (bs:List Bool) (k:Nat):zuq bs (k+1)=if bs.getD k false=true then zuq bs k++ [k]else zuq bs k:=by
 unfold zuq
 rw[List.range_succ,List.filter_append]
 by_cases h:bs.getD k false=true
 ·rw[if_pos h];simp only[List.filter_cons,h,if_true,List.filter_nil]
 ·rw[if_neg h];simp only[List.filter_cons,h,List.filter_nil];simp
theorem zds (bs:List Bool) (k:Nat):(zuq bs k).length<=k:=by
 unfold zuq
 exact zLT (List.length_filter_le _ _) (by rw[List.length_range];exact zLR _)
theorem zpr (bs:List Bool) (k i:Nat):i∈zuq bs k↔i<k/\bs.getD i false=true:=by
 unfold zuq
 rw[List.mem_filter,List.mem_range]
theorem cntF_le (l:List Bool):zwt l<=l.length:=List.length_filter_le _ _
def ztr (q:List Nat):List Int:=q.map fun i:Nat=>((i:Nat):Int)
theorem zbq (q:List Nat):(ztr q).length=q.length:=by simp[ztr]
theorem zmr (q:List Nat) (k:Nat):ztr q++ [((k:Nat):Int)]=ztr (q++ [k]):=by simp[ztr]
theorem zqr {bs:List Bool} {k:Nat} (h:k<bs.length):(bs.map Value.bool)[k]'(by simpa using h)= .bool bs[k]:=by simp
theorem bools_set (bs:List Bool) (k:Nat):(bs.map Value.bool).set k (.bool true)=(bs.set k true).map Value.bool:=by rw[List.map_set]
theorem zce.kind {w:World} {e:TypeId} {B:Nat} {v:Value} {es:List Value} (h:zce w e B v es) (h0:0<es.length) (j:Nat):∃cs fz,w.heap[(ptr v j).block]? =some (.cells cs e fz):=by
 obtain⟨g,cap,hv⟩:∃g cap,v= .slice (some ⟨g,0,none⟩) es.length cap:=by
  rcases h.2 with⟨_,h0'⟩ | ⟨g,cap,cur,rfl,_⟩
  ·omega
  ·exact⟨g,cap,rfl⟩
 subst hv
 obtain⟨c,fz,hk⟩:=Lib.ownsRow_kind h g rfl
 exact⟨c,fz,by rw[zsa];exact hk⟩
theorem Tryz.sizeI (w:World):(sizeOf 3).run Tryz.prog w= .ok 1 w:=by go_simp
theorem zts (w:World) (p:Addr) (u:Value):(w.setCell p u).heap.size=w.heap.size:=by simp[World.setCell]
def d_true (b:Bool) (p:Prop):Prop:=b=true↔p
set_option maxRecDepth 100000 in
set_option maxHeartbeats 12800000 in
theorem grow_any (K:Nat) (hK:K=172\/K=173) (b n:Nat) (L:Nat->Nat->Prop) (dL:Nat->Nat->Bool) (hDL:∀i j,d_true (dL i j) (L i j)) (S:Nat->Prop) (v0:Value) (bs:List Bool) (w0 w:World) (hn1:1<=n) (hn128:n<=128)
 (ho:zce w 4 w0.heap.size v0 (bs.map Value.bool)) (hb:Below w0.heap.size w0 w) (hlen:bs.length=n) (hS:∀j,j<n->(bs.getD j false=true↔S j))
 (hcl:∀wr (i j:Nat),i<n->j<n->Below w0.heap.size w0 wr->Calls Tryz.prog K #[.int .i64 (i:Nat), .int .i64 (j:Nat), .pointer (some ⟨b,0,none⟩)] wr (fun e w'=>e= .returned (.bool (dL i j))/\Below wr.heap.size wr w')):
 Calls Tryz.prog 171 #[v0, .func (.func K) #[] #[.pointer (some ⟨b,0,none⟩)]] w (fun e w'=>e= .returned (.tuple #[])/\(∃bs':List Bool,zce w' 4 w0.heap.size v0 (bs'.map Value.bool)/\bs'.length=n/\∀j,j<n->(bs'.getD j false=true↔Clo n S L j))/\Below w0.heap.size w0 w'):=by
 obtain⟨i3,hi3,hz3,hs3,hy3⟩:=info_parts Tryz.infoInt
 have hAQ:=append1_q (P:=Tryz.prog) 29 3 i3 Tryz.underlying29 hi3 hz3 hs3 hy3
 clear hi3 hz3 hs3 hy3
 have HLEN:=zH hlen
 have HS:=zH hS
 have HO:=zH ho
 have HB:=zH hb
 have s0:=ho.sl
 have l0:slen v0=n:=by have h:=ho.len;rw[List.length_map,hlen]at h;exact h
 have HCL:=zH hcl
 have HDL:=zH hDL
 clear hlen hS ho hb hcl hDL
 rcases hK with rfl | rfl
 all_goals
  go_enter Tryz.func171,Tryz.ntmps171
  go_wp2_with fail
  go_loopg [4,10] (n) (fun g u4 u10 wr=>∃ (k:Nat),k<=n/\g=n-k/\u10= .int .i64 k/\QV wr 3 w0.heap.size u4 (ztr (zuq bs k))/\zce wr 4 w0.heap.size v0 (bs.map Value.bool)/\Below w0.heap.size w0 wr)
  case atStart=>exact⟨0,zZL _,rfl,rfl,QV.nil _ _ _,HO.out,HB.out⟩
  case round=>
   obtain⟨k,hkn,hg,rfl,hq,ho,hbr⟩:=hrel
   obtain⟨w2,hw2⟩:∃w2,w2=wr:=⟨_,rfl⟩
   subst hw2
   have HG:=zH hg
   have HQ:=zH hq
   have HO2:=zH ho
   have HBR:=zH hbr
   have sq:=hq.sl
   clear hg
   by_cases hkl:k<n
   ·have hkb:k<bs.length:=by rw[HLEN.out];exact hkl
    have hcell:=ho.cell k (by rw[List.length_map];exact hkb)
    rw[zqr hkb]at hcell
    have i1:(0:Int)<=(k:Int):=by omega
    have i2:(k:Int)<(n:Nat):=by omega
    have HMS:=zH (zst bs k)
    have hml:(ztr (zuq bs k)).length<=1000:=by rw[zbq];have:=zds bs k;omega
    have hsz:=hbr.size
    have HGD:=zH (zrn hkb)
    obtain⟨x,hx⟩:∃x,bs[k]'hkb=x:=⟨_,rfl⟩
    rw[hx]at hcell HGD
    cases x with
    | true=>
      rw[HGD.out,if_pos rfl]at HMS
      clear hq ho hbr hx
      go_wp2_with (first
       |(at_builtin;refine hAQ w2 rfl _ _ rfl w0.heap.size _ u4 (ztr (zuq bs k)) rfl HQ.out k rfl hml hsz ?_;intro v' w1 hq1 hb1 hk1 sl1
         have HQ1:=zH hq1
         have HO1:=zH (hk1 _ _ _ _ (by decide) HO2.out)
         have HB1:=zH (HBR.out.trans hb1)
         clear hq1 hb1 hk1))
      go_roundg (n- (k+1))
      case measure=>(have:=HG.out;omega)
      case rel=>exact⟨k+1,by omega,rfl,by go_num,by rw[HMS.out,<-zmr];exact HQ1.out,HO1.out,HB1.out⟩
    | false=>
      rw[HGD.out,if_neg (by decide)]at HMS
      clear hq ho hbr hx
      go_wp2_with fail
      go_roundg (n- (k+1))
      case measure=>(have:=HG.out;omega)
      case rel=>exact⟨k+1,by omega,rfl,by go_num,by rw[HMS.out];exact HQ.out,HO2.out,HBR.out⟩
   ·obtain rfl:k=n:=by omega
    clear hq ho hbr
    go_wp2_with fail
    have hst:GInv k S L bs (zuq bs k):=GInv.start HLEN.out HS.out (fun i hi hb=>(zpr bs k i).2 ⟨hi,hb⟩) (fun i hi=>(zpr bs k i).1 hi)
    go_loopg [4] (zwt bs+(zuq bs k).length) (fun g u4 wr=>∃ (bs':List Bool) (q:List Nat),g=zwt bs'+q.length/\g<=500/\QV wr 3 w0.heap.size u4 (ztr q)/\zce wr 4 w0.heap.size v0 (bs'.map Value.bool)/\GInv k S L bs' q/\Below w0.heap.size w0 wr)
    case atStart=>exact⟨bs,_,rfl,(by have:=zds bs k;have:=cntF_le bs;have:=HLEN.out;omega),HQ.out,HO2.out,hst,HBR.out⟩
    case round=>
     obtain⟨bs',q,hg2,hg5,hq2,ho2,hi2,hbr2⟩:=hrel
     obtain⟨w3,hw3⟩:∃w3,w3=wr:=⟨_,rfl⟩
     subst hw3
     have HG2:=zH hg2
     have sq2:=hq2.sl
     have lq2:slen u4=q.length:=by rw[hq2.len,zbq]
     cases q with
     | nil=>
       have hlq:slen u4=0:=lq2
       have HI3:=zH hi2
       have HO3:=zH ho2
       have HBR3:=zH hbr2
       clear lq2 hg2 hq2 ho2 hi2 hbr2
       go_wp2_with fail
       go_end0
       exact⟨rfl,⟨bs',HO3.out,HI3.out.len,HI3.out.all⟩,HBR3.out⟩
     | cons h q=>
       obtain⟨m,hm⟩:∃m,slen u4=m:=⟨_,rfl⟩
       have hm0:(0:Int)<((m:Nat):Int):=by rw[List.length_cons]at lq2;omega
       have hmd:decide (0<m)=true:=decide_eq_true (by omega)
       have HGI:=zH hi2.head
       have HQ3:=zH hq2
       have HO3:=zH ho2
       have HBR3:=zH hbr2
       have hcnt:zwt bs'+q.length<=500:=by rw[List.length_cons]at hg2;omega
       obtain⟨M,hMM⟩:∃M,zwt bs'+q.length=M:=⟨_,rfl⟩
       have HMM:=zH hMM
       have HMM2:=zH (show zwt bs'+(h::q).length=M+1 by rw[List.length_cons];omega)
       rw[hMM]at hcnt
       clear lq2 hg2 hq2 ho2 hi2 hbr2 hMM
       go_wp2_with fail
       go_loopg [4,28] (k) (fun g u4 u28 wr=>∃ (j:Nat) (bs2:List Bool) (q2:List Nat),j<=k/\g=k-j/\u28= .int .i64 j/\QV wr 3 w0.heap.size u4 (ztr (h::q2))/\zce wr 4 w0.heap.size v0 (bs2.map Value.bool)/\zxt k S L bs2 h q2 j/\zwt bs2+q2.length=M/\Below w0.heap.size w0 wr)
       case atStart=>exact⟨0,bs',q,zZL _,rfl,rfl,HQ3.out,HO3.out,HGI.out,HMM.out,HBR3.out⟩
       case round=>
        obtain⟨j,bs2,q2,hjn,hg3,rfl,hq3,ho3,hi3,hm3,hbr3⟩:=hrel
        obtain⟨w5,hw5⟩:∃w5,w5=wr:=⟨_,rfl⟩
        subst hw5
        have HG3:=zH hg3
        have HQ4:=zH hq3
        have HO4:=zH ho3
        have HI4:=zH hi3
        have HM4:=zH hm3
        have HBR4:=zH hbr3
        have sq4:=hq3.sl
        have lq4:slen u4=q2.length+1:=by rw[hq3.len,zbq,List.length_cons]
        have hj128:j<=128:=by omega
        clear HGI HQ3 HO3 HMM HBR3 hg3
        by_cases hjk:j<k
        ·have hjb:j<bs2.length:=by rw[hi3.len];exact hjk
         have hcell:=ho3.cell j (by rw[List.length_map];exact hjb)
         have hfro:=ho3.frozen j (by rw[List.length_map];exact hjb)
         rw[zqr hjb]at hcell
         have hc0:w5.cell? (ptr u4 0)=some (.int .i64 ((h:Nat):Int)):=hq3.cell 0 (by rw[zbq];simp)
         have i1:(0:Int)<=(j:Int):=by omega
         have i2:(j:Int)<(k:Nat):=by omega
         have i3:(0:Int)<((slen u4:Nat):Int):=by omega
         have HGD:=zH (zrn hjb)
         have hhk:=hi3.hin.1
         obtain⟨x,hx⟩:∃x,bs2[j]'hjb=x:=⟨_,rfl⟩
         rw[hx]at hcell HGD
         clear hq3 ho3 hi3 hm3 hbr3 hx lq4
         cases x with
         | true=>
           go_wp2_with fail
           go_roundg (k- (j+1))
           case measure=>(have:=HG3.out;omega)
           case rel=>exact⟨j+1,bs2,q2,by omega,rfl,by go_num,HQ4.out,HO4.out,HI4.out.skip (Or.inl HGD.out),HM4.out,HBR4.out⟩
         | false=>
           have HDLj:=zH (HDL.out h j)
           have HCLj:=zH (HCL.out w5 h j hhk hjk HBR4.out)
           obtain⟨d,hd⟩:∃d,dL h j=d:=⟨_,rfl⟩
           rw[hd]at HDLj HCLj
           clear hd
           cases d with
           | false=>
             go_wp2_with ((first | go_at_call 172 | go_at_call 173);(with_reducible refine HCLj.out.mono ?_);rintro e9 w9 ⟨rfl,hb9⟩)
             go_roundg (k- (j+1))
             case measure=>(have:=HG3.out;omega)
             case rel=>exact⟨j+1,bs2,q2,by omega,rfl,by go_num,HQ4.out.below hb9,HO4.out.below hb9,HI4.out.skip (Or.inr (fun hl=>by have h9:=HDLj.out.2 hl;cases h9)),HM4.out,zfa HBR4.out hb9 HBR4.out.size⟩
           | true=>
             have HPU:=zH (HI4.out.push hjk (HDLj.out.1 rfl))
             have hbl:j<bs2.length:=hjb
             have HCS:Hid (zwt (bs2.set j true)+(q2++ [j]).length=M):=zH (by
              have h1:=zgs (l:=bs2) (k:=j) (by have h2:=HGD.out;rw[zGD]at h2;rw[zGE hjb]at h2 |-;exact congrArg some h2)
              have h2:=HM4.out
              rw[List.length_append]
              simp only[List.length_cons,List.length_nil]
              omega)
             have hql:(ztr (h::q2)).length<=1000:=by have:=HM4.out;rw[zbq,List.length_cons];omega
             go_wp2_with (first
              |((first | go_at_call 172 | go_at_call 173);(with_reducible refine HCLj.out.mono ?_);rintro e9 w9 ⟨rfl,hb9⟩
                have ho9:=HO4.out.below hb9
                have hq9:=HQ4.out.below hb9
                have hbl9:j<(bs2.map Value.bool).length:=(by rw[List.length_map];exact hbl)
                have hcell:=zba hb9 hcell
                have hfro:=ho9.frozen j hbl9
                have hset:=ho9.set j hbl9 (.bool true)
                rw[bools_set]at hset
                obtain⟨cs,fz,hkd⟩:=ho9.kind (by omega) j
                have hqs:=hq9.over (p:=ptr v0 j) hkd (by decide) (.bool true)
                have HOS:=zH hset.1
                have HBS:=zH ((zfa HBR4.out hb9 HBR4.out.size).trans hset.2)
                have hsz:=HBS.out.size
                clear hset hkd ho9 hq9)
              |(at_builtin;refine hAQ (w9.setCell (ptr v0 j) (.bool true)) rfl _ _ rfl w0.heap.size _ u4 (ztr (h::q2)) rfl hqs j (by rw[zts];rfl) hql hsz ?_;intro v' w1 hq1 hb1 hk1 sl1
                have HQ1:=zH hq1
                have HO1:=zH (hk1 _ _ _ _ (by decide) HOS.out)
                have HB1:=zH (HBS.out.trans hb1)
                clear hq1 hb1 hk1))
             go_roundg (k- (j+1))
             case measure=>(have:=HG3.out;omega)
             case rel=>exact⟨j+1,_,q2++ [j],by omega,rfl,by go_num,(by have h9:=HQ1.out;rw[zmr]at h9;exact h9),HO1.out,HPU.out,HCS.out,HB1.out⟩
        ·obtain rfl:j=k:=by omega
         have hcut:∀w':World,(Instr.slice 29 u4 (some (.int .i64 1)) none none).run Tryz.prog w'= .ok (cut 1 u4 1 (slen u4)) w':=fun w'=>by
          have h1:=zdm (lo:=1) w' sq4 Tryz.underlying29 (by omega) (by omega)
          rw[h1,show Tryz.prog.elem 29=3 from by kernel_rfl,Tryz.sizeI,Result.andThen_ok]
          rfl
         have hpop:QV w5 3 w0.heap.size (cut 1 u4 1 (slen u4)) (ztr q2):=hq3.pop
         obtain⟨u4',hu4⟩:∃u,cut 1 u4 1 (slen u4)=u:=⟨_,rfl⟩
         rw[hu4]at hpop
         simp only[hu4]at hcut
         have HPOP:=zH hpop
         clear hpop hu4 hq3 ho3 hi3 hm3 hbr3 lq4
         go_wp2_with fail
         go_roundg M
         case measure=>(have:=HG2.out;have:=HMM2.out;omega)
         case rel=>exact⟨bs2,q2,HM4.out.symm,hcnt,HPOP.out,HO4.out,HI4.out.finish,HBR4.out⟩
theorem grow_reach (b:Nat) (c:RC) (S:Nat->Prop) (v0:Value) (bs:List Bool) (w0 w:World) (vr vs vl:Value) (hC:C3 w0 b vr vs vl) (hr:zlw w0 vr c.rates) (hv:zzp c)
 (ho:zce w 4 w0.heap.size v0 (bs.map Value.bool)) (hb:Below w0.heap.size w0 w) (hlen:bs.length=c.rates.length) (hS:∀j,j<c.rates.length->(bs.getD j false=true↔S j)):
 Calls Tryz.prog 171 #[v0, .func (.func 172) #[] #[.pointer (some ⟨b,0,none⟩)]] w (fun e w'=>e= .returned (.tuple #[])/\(∃bs':List Bool,zce w' 4 w0.heap.size v0 (bs'.map Value.bool)/\bs'.length=c.rates.length/\∀j,j<c.rates.length->(bs'.getD j false=true↔Clo c.rates.length S (fun i j=>0<rq c i j) j))/\Below w0.heap.size w0 w'):=
 grow_any _ (Or.inl rfl) b _ _ (fun i j=>decide (0<rq c i j)) (fun _ _=>decide_eq_true_iff) S v0 bs w0 w (by have:=hv.1;have:=hv.2.2.2.1;omega) (by have:=hv.2.1;have:=hv.2.2.2.1;omega) ho hb hlen hS fun wr i j hi hj hbr=>reach1_any b c i j wr vr vs vl (hC.belowS hbr) (hr.below hbr) hv hi hj
theorem grow_fatal (b:Nat) (c:RC) (S:Nat->Prop) (v0:Value) (bs:List Bool) (w0 w:World) (vr vs vl:Value) (hC:C3 w0 b vr vs vl) (hr:zlw w0 vr c.rates) (hv:zzp c)
 (ho:zce w 4 w0.heap.size v0 (bs.map Value.bool)) (hb:Below w0.heap.size w0 w) (hlen:bs.length=c.rates.length) (hS:∀j,j<c.rates.length->(bs.getD j false=true↔S j)):
 Calls Tryz.prog 171 #[v0, .func (.func 173) #[] #[.pointer (some ⟨b,0,none⟩)]] w (fun e w'=>e= .returned (.tuple #[])/\(∃bs':List Bool,zce w' 4 w0.heap.size v0 (bs'.map Value.bool)/\bs'.length=c.rates.length/\∀j,j<c.rates.length->(bs'.getD j false=true↔Clo c.rates.length S (fun i j=>0<rq c j i) j))/\Below w0.heap.size w0 w'):=
 grow_any _ (Or.inr rfl) b _ _ (fun i j=>decide (0<rq c j i)) (fun _ _=>decide_eq_true_iff) S v0 bs w0 w (by have:=hv.1;have:=hv.2.2.2.1;omega) (by have:=hv.2.1;have:=hv.2.2.2.1;omega) ho hb hlen hS fun wr i j hi hj hbr=>fatal1_any b c i j wr vr vs vl (hC.belowS hbr) (hr.below hbr) hv hi hj
end Go.Proofs.YtlpdkbmmbdfoiaaGreat
