/- Lemmas. -/
import Derived.Test.YtlpdkbmmbdfoiaaGreatELu7
set_option linter.unusedVariables false
set_option linter.unusedSimpArgs false
namespace Go.Proofs.YtlpdkbmmbdfoiaaGreat
open Go.RowKit
theorem zyv {P:Program} (t e:TypeId) (i:TypeInfo) (ht:P.underlying t=some (.slice e)) (hi:P.info? e=some i) (hz:i.zero=some (.int .i64 0)) (hsize:i.size=1) (hby:i.bytes=8)
 (w0:World) {ops:Array Oper} {rest:List Oper} {o:Oper} {a:Act} {Q:Exit->Act->World->Prop} (hgd:o.guard=none) (s x:Operand)
 (ho:o.op= .call { callee:= .builtin .append,args:=#[s,x],argTypes:=#[t,t] }) (B:Nat) (e':TypeId)
 (v:Value) (es:List Int) (hs:a.eval s=v) (hown:zce w0 e B v (es.map (Value.int .i64))) (y:Int) (hxe:a.eval x= .slice (some ⟨w0.heap.size,0,none⟩) 1 1) (hn:es.length<=1000) (hbase:B<=w0.heap.size)
 (h:∀v' w',zce w' e B v' ((es++ [y]).map (Value.int .i64))->Below B w0 w'->wpList P ops Q rest (a.put o.dst v') w'):wpList P ops Q (o::rest) a (w0.alloc (.cells #[.int .i64 y] e')):=by
 refine zsj w0 hgd s x t ho B e e' i (.int .i64 0) 8 ht hi hz hsize hby rfl v (es.map (Value.int .i64)) hs hown (.int .i64 y) hxe rfl (by simp[maxLen];omega) (by simp;omega) hbase ?_
 intro v' w' h2 h4
 exact h v' w' (by rw[List.map_append];exact h2) h4
theorem zce.intsV {w:World} {e:TypeId} {B:Nat} {v:Value} {l:List Int} (h:zce w e B v (l.map (Value.int .i64))):zgv w v l:=
 ⟨h.sl,by rw[h.len],fun j hj=>h.cell j hj⟩
structure zvq (c:RC) (l:List Nat):Prop where
 mem:∀i,i∈l↔i<c.rates.length/\Rch c i/\Ftl c i/\c.lost.getD i false=false
 sorted:l.Pairwise (· < ·)
theorem zjt :∀ {l:List Nat} {lo n:Nat},l.Pairwise (· < ·)->(∀x,x∈l->lo<=x/\x<n)->l.length<=n-lo
 | [],lo,n,_,_=>zZL _
 | x::l,lo,n,h,hm=>by
   rw[List.pairwise_cons]at h
   have h1:=hm x (by simp)
   have h2:=zjt (lo:=x+1) (n:=n) h.2 fun y hy=>⟨h.1 y hy,(hm y (by simp[hy])).2⟩
   rw[List.length_cons]
   omega
def alv (a b l:List Bool) (k:Nat):List Nat:=(List.range k).filter fun i=>a.getD i false&&(b.getD i false&& !l.getD i false)
theorem alv_succ (a b l:List Bool) (k:Nat):alv a b l (k+1)=if (a.getD k false&&(b.getD k false&& !l.getD k false))=true then alv a b l k++ [k]else alv a b l k:=by
 unfold alv
 rw[List.range_succ,List.filter_append]
 by_cases h:(a.getD k false&&(b.getD k false&& !l.getD k false))=true
 ·rw[if_pos h];simp only[List.filter_cons,h,if_true,List.filter_nil]
 ·rw[if_neg h];simp only[List.filter_cons,h,List.filter_nil];simp
theorem alv_le (a b l:List Bool) (k:Nat):(alv a b l k).length<=k:=by
 unfold alv
 exact zLT (List.length_filter_le _ _) (by rw[List.length_range];exact zLR _)
theorem alv_alive {c:RC} {a b:List Bool} (ha:∀j,j<c.rates.length->(a.getD j false=true↔Rch c j)) (hb:∀j,j<c.rates.length->(b.getD j false=true↔Ftl c j)):zvq c (alv a b c.lost c.rates.length):=by
 refine⟨fun i=> ?_,?_⟩
 ·unfold alv
  rw[List.mem_filter,List.mem_range]
  constructor
  ·rintro⟨h1,h2⟩
   simp only[Bool.and_eq_true,Bool.not_eq_true']at h2
   exact⟨h1,(ha i h1).1 h2.1,(hb i h1).1 h2.2.1,h2.2.2⟩
  ·rintro⟨h1,h2,h3,h4⟩
   refine⟨h1,?_⟩
   rw[(ha i h1).2 h2,(hb i h1).2 h3,h4];rfl
 ·unfold alv
  exact List.Pairwise.filter _ List.pairwise_lt_range
def RAlive (w0:World) (c:RC) (e:Ending) (w:World):Prop:=∃v l,e= .returned v/\zgv w v (ztr l)/\zvq c l/\Below w0.heap.size w0 w
set_option maxRecDepth 100000 in
set_option maxHeartbeats 3200000 in
theorem zzv (va:Value) (c:RC) (w:World) (ha:zdq w va c) (hv:zzp c):Calls Tryz.prog 108 #[va] w (RAlive w c):=by
 obtain⟨i0,hi,hz0,hz1,hz2⟩:=info_parts Tryz.infoInt
 have hA1:=zyv (P:=Tryz.prog) 29 3 i0 Tryz.underlying29 hi hz0 hz1 hz2
 clear hi hz0 hz1 hz2
 have hlen:c.rates.length=c.start.length:=hv.2.2.2.1
 have hlost:c.lost.length=c.start.length:=hv.2.2.1
 have h128:c.start.length<=128:=hv.2.1
 obtain⟨rv,sv,lv,rfl,hr,hs,hl⟩:=id ha
 obtain⟨ra,rn,rk,rfl,_⟩:=id hr.sl
 obtain⟨sa,sn,sk,rfl,_⟩:=id hs.sl
 obtain⟨la,ln,lk,rfl,_⟩:=id (zhc.sl hl)
 have HBW:=zH (zca w (.cells #[.slice ra rn rk, .slice sa sn sk, .slice la ln lk] 28))
 have HC:=zH (C3.new w 28 (.slice ra rn rk) (.slice sa sn sk) (.slice la ln lk))
 have HML:=zH (hl.below HBW.out)
 have HA:=zH (ha.below HBW.out)
 have HV:=zH hv
 have hsn:sn=c.start.length:=hs.len
 have hll:ln=c.lost.length:=by have h:=hl.len;exact h
 have HN:Hid (sn=c.rates.length):=zH (by omega)
 have HLL:Hid (c.lost.length=sn):=zH (by omega)
 have sll:=zhc.sl hl
 obtain rfl:ln=sn:=by omega
 have hn128:ln<=128:=by omega
 clear hr hs hl ha hv hlen hlost h128 hsn hll
 go_enter Tryz.func108,Tryz.ntmps108
 go_upto_region 2 with fail
 obtain⟨b,hb⟩:∃b,w.heap.size=b:=⟨_,rfl⟩
 rw[hb]at HC |-
 generalize w.alloc (.cells #[.slice ra rn rk, .slice sa ln sk, .slice la ln lk] 28)=W1 at *
 obtain⟨_,c0,c1,c2,_,_,_⟩:=HC.out
 have S0:=zH (And.intro c0 (And.intro c1 c2))
 clear c0 c1 c2
 go_region_held3 (fun w'=>w'.cell? ⟨b,0,none⟩=some (.slice ra rn rk)/\w'.cell? ⟨b,1,none⟩=some (.slice sa ln sk)/\w'.cell? ⟨b,2,none⟩=some (.slice la ln lk)/\Below W1.heap.size W1 w') (first
  | with_reducible exact kp3a S0.out (zja _)
  | with_reducible exact kp3w (by assumption) (by assumption)) (first
  |(go_at_call 111;(with_reducible refine(zyr _ c _ (HA.out.below (kp3c (by assumption))) HV.out).mono ?_);rintro e4 w4 ⟨v4,bs4,rfl,hv4,hl4,hm4,hb4⟩)
  |(go_at_call 112;(with_reducible refine(fatal_any _ c _ (HA.out.below (kp3c (by assumption))) HV.out).mono ?_);rintro e5 w5 ⟨v5,bs5,rfl,hv5,hl5,hm5,hb5⟩))
 have hE:=kp3c (by assumption)
 have HV4:=zH (hv4.below hb5)
 have HV5:=zH hv5
 have HE:=zH hE
 have HC5:=zH (HC.out.belowS hE)
 have HL5:=zH (HML.out.below hE)
 have s4:=zhc.sl hv4
 have s5:=zhc.sl hv5
 have l4:slen v4=ln:=by rw[hv4.len,hl4,HN.out]
 have l5:slen v5=ln:=by rw[hv5.len,hl5,HN.out]
 have HLN4:Hid (bs4.length=ln):=zH (by rw[hl4,HN.out])
 have HLN5:Hid (bs5.length=ln):=zH (by rw[hl5,HN.out])
 have HAL:Hid (zvq c (alv bs4 bs5 c.lost ln)):=zH (by have h:=alv_alive hm4 hm5;rwa[<-HN.out]at h)
 obtain⟨_,c0,c1,c2,_,_,_⟩:=HC5.out
 clear hv4 hv5 hE hl4 hl5 hm4 hm5 hb4 hb5
 go_wp2_with fail
 go_loopg [3,14] (ln) (fun g u3 u14 wr=>∃ (k:Nat),k<=ln/\g=ln-k/\u14= .int .i64 k/\zce wr 3 w5.heap.size u3 ((ztr (alv bs4 bs5 c.lost k)).map (Value.int .i64))/\Below w5.heap.size w5 wr)
 case atStart=>exact⟨0,zZL _,rfl,rfl,zce.nil _ _ _,Below.refl _ _⟩
 case round=>
  obtain⟨k,hkn,hg,rfl,ho,hbr⟩:=hrel
  obtain⟨w2,hw2⟩:∃w2,w2=wr:=⟨_,rfl⟩
  subst hw2
  have HG:=zH hg
  have HO:=zH ho
  have HBR:=zH hbr
  have so:=ho.sl
  clear hg c0 c1 c2
  by_cases hkl:k<ln
  ·have hk4:k<bs4.length:=by rw[HLN4.out];exact hkl
   have hk5:k<bs5.length:=by rw[HLN5.out];exact hkl
   have hkL:k<c.lost.length:=by rw[HLL.out];exact hkl
   have q4:=(HV4.out.below hbr).at' k hk4
   have q5:=(HV5.out.below hbr).at' k hk5
   have qL:=(HL5.out.below hbr).at' k hkL
   obtain⟨_,c0,c1,c2,_,_,_⟩:=HC5.out.belowS hbr
   have i1:(0:Int)<=(k:Int):=by omega
   have i2:(k:Int)<(ln:Nat):=by omega
   have HMS:=zH (alv_succ bs4 bs5 c.lost k)
   have hml:(ztr (alv bs4 bs5 c.lost k)).length<=1000:=by rw[zbq];have:=alv_le bs4 bs5 c.lost k;omega
   have hsz:=hbr.size
   rw[zrn hk4,zrn hk5,zrn hkL]at HMS
   obtain⟨x4,hx4⟩:∃x,bs4[k]'hk4=x:=⟨_,rfl⟩
   obtain⟨x5,hx5⟩:∃x,bs5[k]'hk5=x:=⟨_,rfl⟩
   obtain⟨xL,hxL⟩:∃x,c.lost[k]'hkL=x:=⟨_,rfl⟩
   rw[hx4]at q4
   rw[hx5]at q5
   rw[hxL]at qL
   rw[hx4,hx5,hxL]at HMS
   clear hx4 hx5 hxL ho hbr
   cases x4 with
   | false=>
     have HMN:=zH (HMS.out.trans (if_neg (by simp)))
     go_wp2_with fail
     go_roundg (ln- (k+1))
     case measure=>(have:=HG.out;omega)
     case rel=>exact⟨k+1,by omega,rfl,by go_num,by rw[HMN.out];exact HO.out,HBR.out⟩
   | true=>
     cases x5 with
     | false=>
       have HMN:=zH (HMS.out.trans (if_neg (by simp)))
       go_wp2_with fail
       go_roundg (ln- (k+1))
       case measure=>(have:=HG.out;omega)
       case rel=>exact⟨k+1,by omega,rfl,by go_num,by rw[HMN.out];exact HO.out,HBR.out⟩
     | true=>
       cases xL with
       | true=>
         have HMN:=zH (HMS.out.trans (if_neg (by simp)))
         go_wp2_with fail
         go_roundg (ln- (k+1))
         case measure=>(have:=HG.out;omega)
         case rel=>exact⟨k+1,by omega,rfl,by go_num,by rw[HMN.out];exact HO.out,HBR.out⟩
       | false=>
         have HMN:=zH (HMS.out.trans (if_pos (by simp)))
         go_wp2_with (first
          |(at_builtin;refine hA1 w2 rfl _ _ rfl w5.heap.size _ u3 (ztr (alv bs4 bs5 c.lost k)) rfl HO.out k rfl hml hsz ?_;intro v' w1 hq1 hb1
            have sv1:=hq1.sl
            have HQ1:=zH hq1
            have HB1:=zH (HBR.out.trans hb1)
            clear hq1 hb1))
         go_roundg (ln- (k+1))
         case measure=>(have:=HG.out;omega)
         case rel=>exact⟨k+1,by omega,rfl,by go_num,by rw[HMN.out,<-zmr];exact HQ1.out,HB1.out⟩
  ·obtain rfl:k=ln:=by omega
   clear ho hbr
   go_wp2_with fail
   go_ret
   exact⟨_,_,rfl,HO.out.intsV,HAL.out,zaa (zaa HBW.out HE.out) HBR.out⟩
structure SysOk (n:Nat) (A:Mx) (b x:Nat->Rat):Prop where
 n1:1<=n
 n24:n<=24
 fA:zau n n A
 fb:∀i,i<n->fits (b i)
 fx:∀i,i<n->fits (x i)
 w:wtF n n A+wts (zib n b)<=1900
 reg:dt n A≠0
 slim:slimE false n (n+1) n (zpa n A (fun i _=>b i))
 eq:∀i,i<n->sg n (fun j=>A i j*x j)=b i
theorem solve_reg (va vb:Value) (n:Nat) (A:Mx) (b x:Nat->Rat) (w:World) (ha:zam w va n n A) (hb:zbb w vb (zib n b)) (h:SysOk n A b x):
 Calls Tryz.prog 98 #[va,vb] w fun e w'=>∃v,e= .returned (.tuple #[v, .int .i64 0])/\zbb w' v (zib n x)/\Below w.heap.size w w'/\w.heap.size<=(base v).block:=by
 have hr:=zff (B:=fun i _=>b i) h.reg
 have hx:∀i,i<n->solE n A b i=x i:=fun i hi=>by
  rw[zqi h.reg (sol_eq hr) hi,zqi h.reg h.eq hi]
 refine(solve_own va vb n A b w ha hb h.n1 h.n24 h.fA h.fb (by have:=h.w;unfold zmu;rw[zvh];exact this) h.slim (fun i hi _=> ?_)).mono fun e w' ⟨v,er,he,hbl,_,h2⟩=> ?_
 ·exact⟨(zad hr n (zLR _)).2.1 i hi,by have h3:=hx i hi;unfold solE at h3;rw[h3];exact h.fx i hi⟩
 ·obtain⟨rfl,h4,h5⟩:=h2 (by rw[hr];exact Nat.lt_irrefl n)
  refine⟨v,he,?_,hbl,h5⟩
  have e1:zib n (fun i=>(elim false n (zpa n A fun i _=>b i) n).A i n/(elim false n (zpa n A fun i _=>b i) n).A i i)=zib n x:=zdf fun i hi=>hx i hi
  rw[e1]at h4
  exact h4
end Go.Proofs.YtlpdkbmmbdfoiaaGreat
