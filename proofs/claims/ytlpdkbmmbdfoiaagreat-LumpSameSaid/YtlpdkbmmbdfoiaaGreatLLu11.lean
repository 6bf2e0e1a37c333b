/-
  package lump: Coarsest.
-/
import Derived.Test.YtlpdkbmmbdfoiaaGreatLLu10
import Derived.Test.YtlpdkbmmbdfoiaaGreatLMath16
import Derived.Deep.LoopGhost
set_option linter.unusedVariables false
set_option linter.unusedSimpArgs false
namespace Go.Proofs.YtlpdkbmmbdfoiaaGreat
set_option maxHeartbeats 3200000
open Go.RowKit
def RCoarse (w0:World) (c:RC) (e:Ending) (w:World):Prop:=
 (¬zzp c→e= .returned (.tuple #[.slice none 0 0, .int .i64 1]))∧(zzp c→∃v nx,e= .returned (.tuple #[v, .int .i64 0])∧zgv w v nx∧zox c nx)∧Below w0.heap.size w0 w
set_option maxRecDepth 100000 in
theorem coarse_bad (va:Value) (c:RC) (w:World) (ha:zdq w va c) (hv:¬zzp c):Calls Tryz.prog 60 #[va] w (RCoarse w c):=by
 obtain⟨rv,sv,lv,rfl,hr,hs,hl⟩:=id ha
 obtain⟨ra,rn,rk,rfl,r1,r2,r3⟩:=id hr.sl
 obtain⟨sa,sn,sk,rfl,s1,s2,s3⟩:=id hs.sl
 obtain⟨la,ln,lk,rfl,l1,l2,l3⟩:=id (zhc.sl hl)
 have hbx:=zca w (.cells #[.slice ra rn rk, .slice sa sn sk, .slice la ln lk] 28)
 have hC:=C3.new w 28 (.slice ra rn rk) (.slice sa sn sk) (.slice la ln lk)
 have HA:=zH (ha.below hbx)
 have HV:=zH hv
 obtain⟨_,c0,c1,c2,_,_,_⟩:=id hC
 clear hC hr hs hl ha hv
 go_enter Tryz.func60,Tryz.ntmps60
 go_wp2_with (go_at_call 68;(with_reducible refine(zar _ c _ HA.out).mono ?_);rintro e2 w2 ⟨⟨b2,rfl,hv2⟩,hbel2⟩;obtain rfl:b2=false:=Bool.eq_false_iff.2 (fun h=>HV.out (hv2.1 h));clear hv2)
 go_ret2
 exact⟨fun _=>rfl,fun h=>absurd h HV.out,zaa hbx hbel2⟩
theorem zjz (c:RC) (k:Nat) (h:k<c.lost.length):(zgx c).take (k+1)=(zgx c).take k++ [if c.lost[k]=c.lost.getD 0 false then 0 else 1]:=by
 have hk:k<(zgx c).length:=by simp[zgx];exact h
 rw[zxc _ k hk]
 simp[zgx]
theorem lost_same (c:RC) (k:Nat) (h:k<c.lost.length) (he:c.lost[k]=c.lost.getD 0 false):
 ((zgx c).take k++List.replicate (c.lost.length-k) 0).map (Value.int .i64)=((zgx c).take (k+1)++List.replicate (c.lost.length- (k+1)) 0).map (Value.int .i64):=by
 rw[zjz c k h,if_pos he,show c.lost.length-k=(c.lost.length- (k+1))+1 from by omega,List.replicate_succ,List.append_assoc]
 rfl
theorem lost_diff (c:RC) (k:Nat) (h:k<c.lost.length) (he:c.lost[k]≠c.lost.getD 0 false):
 (((zgx c).take k++List.replicate (c.lost.length-k) 0).map (Value.int .i64)).set k (.int .i64 1)=((zgx c).take (k+1)++List.replicate (c.lost.length- (k+1)) 0).map (Value.int .i64):=by
 rw[zjz c k h,if_neg he]
 exact zrz _ k c.lost.length 1 (by rw[List.length_take];simp[zgx];omega) h
set_option maxRecDepth 100000 in
theorem coarse_good (va:Value) (c:RC) (w:World) (ha:zdq w va c) (hv:zzp c):Calls Tryz.prog 60 #[va] w (RCoarse w c):=by
 obtain⟨i1,hi1,hz1,hs1,hy1⟩:=info_parts Tryz.infoInt
 have hM1:=make_E (P:=Tryz.prog) 29 3 i1 _ 8 Tryz.underlying29 hi1 hz1 hs1 hy1 (by decide) rfl
 clear hi1 hz1 hs1 hy1
 obtain⟨rv,sv,lv,rfl,hr,hs,hl⟩:=id ha
 obtain⟨ra,rn,rk,rfl,r1,r2,r3⟩:=id hr.sl
 obtain⟨sa,sn,sk,rfl,s1,s2,s3⟩:=id hs.sl
 obtain⟨la,ln,lk,rfl,l1,l2,l3⟩:=id (zhc.sl hl)
 have hsn:sn=c.lost.length:=by have h1:sn=c.start.length:=hs.len;rw[h1];exact hv.2.2.1.symm
 subst hsn
 have hln:ln=c.lost.length:=hl.len
 subst hln
 have hn1:0<c.lost.length:=by have h1:=hv.1;have h2:=hv.2.2.1;omega
 have hn2:c.lost.length≤128:=by have h1:=hv.2.1;have h2:=hv.2.2.1;omega
 have hbx:=zca w (.cells #[.slice ra rn rk, .slice sa c.lost.length sk, .slice la c.lost.length lk] 28)
 have hC:=C3.new w 28 (.slice ra rn rk) (.slice sa c.lost.length sk) (.slice la c.lost.length lk)
 have HA:=zH (ha.below hbx)
 have hl2:=hl.below hbx
 have HV:=zH hv
 have HLS:Hid (c.lost.length=c.start.length):=zH hv.2.2.1
 have HC:=zH hC
 obtain⟨_,c0,c1,c2,_,_,_⟩:=id hC
 have sl3:zgc (.slice la c.lost.length lk):=zhc.sl hl
 clear hC hr hs hl ha hv
 go_enter Tryz.func60,Tryz.ntmps60
 go_wp2_with (first
  |(go_at_call 68;(with_reducible refine(zar _ c _ HA.out).mono ?_);rintro e2 w2 ⟨⟨b2,rfl,hv2⟩,hbel2⟩;obtain rfl:b2=true:=hv2.2 HV.out;clear hv2
    obtain⟨_,c0,c1,c2,_,_,_⟩:=HC.out.belowS hbel2)
  |(refine hM1 _ rfl _ _ rfl c.lost.length rfl rfl (by omega) ?_;intro v4 w4 hown4 hbel4;have s4:=hown4.sl;have l4:slen v4=c.lost.length:=by rw[hown4.len,List.length_replicate]))
 have hB4:=zaa hbel2 hbel4
 go_loopw [19] (fun u19 wr=>∃ (k:Nat),k≤c.lost.length∧u19= .int .i64 k∧zce wr 3 w2.heap.size v4 (((zgx c).take k++List.replicate (c.lost.length-k) 0).map (Value.int .i64))∧Below w2.heap.size w2 wr) (fun u19 _=>c.lost.length- (intOf u19).toNat)
 case atStart=>exact⟨0,Nat.zero_le _,rfl,by rw[List.take_zero,List.nil_append,List.map_replicate];exact hown4,hbel4⟩
 case round=>
  obtain⟨k,hk,rfl,ho,hbr⟩:=hrel
  have hbr2:=zaa hbel2 hbr
  have HO:=zH ho
  obtain⟨_,c0,c1,c2,_,_,_⟩:=HC.out.belowS hbr2
  by_cases hkl:k<c.lost.length
  ·have hlk:=(hl2.below hbr2).at' k hkl
   have hl0:=(hl2.below hbr2).at' 0 hn1
   have HE:=zH (lost_same c k hkl)
   have HD:=zH (lost_diff c k hkl)
   have HG0:Hid (c.lost.getD 0 false=c.lost[0]'hn1):=zH (by simp[List.getD,List.getElem?_eq_getElem hn1])
   have hk9:k<(((zgx c).take k++List.replicate (c.lost.length-k) 0).map (Value.int .i64)).length:=by rw[List.length_map,List.length_append,List.length_replicate,List.length_take];simp[zgx];omega
   have hc9:=ho.cell k hk9
   have hf9:=ho.frozen k hk9
   have HK9:=zH hk9
   generalize hm1:c.lost[k]'hkl=m1 at *
   generalize hm2:c.lost[0]'hn1=m2 at *
   have HM1:=zH hm1
   have HM2:=zH hm2
   have i1:(0:Int)≤(k:Int):=by omega
   have i2:(k:Int)<(c.lost.length:Nat):=by omega
   have i3:(0:Int)<(c.lost.length:Nat):=by omega
   clear hm1 hm2 ho
   by_cases hmm:m1=m2
   ·have hb:(m1 != m2)=false:=by simp[hmm]
    have hbq:(m1==m2)=true:=by simp[hmm]
    have HMM:=zH hmm
    clear hmm
    go_wp2_with fail
    go_quiet (fail)
    have hbd:=zaa hbr (zka (B:=wr.heap.size) wr nq)
    have HO2:Hid (zce (wr.drewN nq) 3 w2.heap.size v4 (((zgx c).take (k+1)++List.replicate (c.lost.length- (k+1)) 0).map (Value.int .i64))):=zH (by
     rw[←HE.out (by rw[HMM.out,HG0.out])];exact HO.out.below (zka wr nq))
    clear hc9 hf9
    go_wp2_with fail
    go_roundw
    case rel=>exact⟨k+1,by omega,by go_num,HO2.out,hbd⟩
    case measure=>simp[intOf];omega
   ·have hb:(m1 != m2)=true:=by simpa using hmm
    have hbq:(m1==m2)=false:=by simpa using hmm
    have HMM:=zH hmm
    clear hmm
    go_wp2_with fail
    go_quiet (fail)
    have hbd:=zaa hbr (zka (B:=wr.heap.size) wr nq)
    have hcD:=zba (zka (B:=wr.heap.size) wr nq) hc9
    have hfD:(wr.drewN nq).frozen? (ptr v4 k)=false:=((HO.out.below (zka wr nq)).frozen k HK9.out)
    clear hc9 hf9
    go_wp2_with fail
    have hset:=(HO.out.below (zka wr nq)).set k HK9.out (.int .i64 1)
    rw[HD.out (by rw[HG0.out];exact HMM.out)]at hset
    have HSET:=zH hset
    clear hset
    go_roundw
    case rel=>exact⟨k+1,by omega,by go_num,HSET.out.1,hbd.trans HSET.out.2⟩
    case measure=>simp[intOf];omega
  ·obtain rfl:k=c.lost.length:=by omega
   have ho2:=ho
   rw[Nat.sub_self,List.replicate_zero,List.append_nil,List.take_of_length_le (by simp[zgx])]at ho2
   have HI0:Hid (zgv wr v4 (zgx c)):=zH ⟨ho2.sl,ho2.len,fun j hj=>ho2.cell j hj⟩
   have HA2:=zH (HA.out.below hbr2)
   have hb3:=zaa hbx hbr2
   clear ho ho2 hown4 HO c0 c1 c2
   go_wp2_with fail
   go_loopg [4] (c.lost.length-cnt (zgx c)) (fun g u4 wi=>∃bl,Refs c bl∧zgv wi u4 bl∧g=c.lost.length-cnt bl∧Below wr.heap.size wr wi)
   case atStart=>exact⟨zgx c,Refs.zero,HI0.out,rfl,Below.refl _ _⟩
   case round=>
    obtain⟨bl,hRf,hIn,hg,hbi⟩:=hrel
    obtain⟨hok,hbl⟩:=hRf.ok hn1
    have HRF:=zH hRf
    have HOK:=zH hok
    have HIN:=zH hIn
    have HBL:=zH hbl
    have hcb:cnt bl≤c.lost.length:=by have:=cnt_le bl bl.length;rw[List.take_length]at this;omega
    have hp0:0<bl.length:=by omega
    have hbi2:=zaa hbr2 hbi
    obtain⟨_,c0,c1,c2,_,_,_⟩:=HC.out.belowS hbi2
    clear hRf hok hIn hbl
    go_wp2_with (first
     |(go_at_call 65;(with_reducible refine(zbx _ bl _ HIN.out).mono ?_);rintro e5 w5 ⟨n5,b5,rfl,rfl,hc5,_⟩;obtain⟨hn5,hb5⟩:=hc5 HOK.out;subst hn5;clear hc5 hb5)
     |(go_at_call 139;(with_reducible refine(split_any _ _ c bl _ _ (HA2.out.below hbi) HIN.out HOK.out (by rw[HBL.out];exact HLS.out) HV.out rfl).mono ?_);rintro e6 w6 ⟨v6,nx,rfl,hsp,ho6,hbel6⟩
       have hle:=hsp.cnt_le HOK.out
       have HSP:=zH hsp
       have HIX:Hid (zgv w6 v6 nx):=zH ⟨ho6.sl,ho6.len,fun j hj=>ho6.cell j hj⟩
       clear hsp ho6))
    ·rename_i heq
     have heq2:cnt nx=cnt bl:=by have:=eq_of_beq heq;omega
     have HEQ:=zH heq2
     clear heq heq2
     go_ret2
     exact⟨fun h=>absurd HV.out h,fun _=>⟨v6,nx,rfl,HIX.out,bl,HRF.out,HSP.out,HEQ.out⟩,zaa (zaa hb3 hbi) hbel6⟩
    ·rename_i heq
     have heq2:cnt nx≠cnt bl:=fun h=>by rw[h]at heq;simp at heq
     have hcn:cnt nx≤c.lost.length:=by
      have h1:=cnt_le nx nx.length
      rw[List.take_length]at h1
      have h2:=HSP.out.2.1
      have h3:=HBL.out
      omega
     have HNE:=zH heq2
     clear heq
     go_roundg (c.lost.length-cnt nx)
     case measure=>omega
     case rel=>exact⟨nx,Refs.step HRF.out HSP.out,HIX.out,rfl,zaa hbi hbel6⟩
theorem zgy (va:Value) (c:RC) (w:World) (ha:zdq w va c):Calls Tryz.prog 60 #[va] w (RCoarse w c):=by
 by_cases h:zzp c
 ·exact coarse_good va c w ha h
 ·exact coarse_bad va c w ha h
end Go.Proofs.YtlpdkbmmbdfoiaaGreat
