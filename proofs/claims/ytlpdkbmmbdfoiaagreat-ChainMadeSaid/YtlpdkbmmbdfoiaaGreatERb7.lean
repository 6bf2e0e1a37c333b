/- Lemmas. -/
import Derived.Test.YtlpdkbmmbdfoiaaGreatERb9
set_option linter.unusedVariables false
set_option linter.unusedSimpArgs false
namespace Go.Proofs.YtlpdkbmmbdfoiaaGreat
set_option maxRecDepth 100000
set_option maxHeartbeats 3200000
open Go.RowKit
theorem zlv (va:Value) (l:List RF) (n:Nat) (w:World) (ha:zni w va l):
 Calls Tryz.prog 212 #[va, .int .i64 n] w fun e w'=>e= .returned (.bool (decide (vecP l n)))/\Below w.heap.size w w':=by
 have sa:=ha.sl
 have la:=ha.len
 have hle:=sa.le
 rw[la]at hle
 have hlb:l.length<=9223372036854775807:=by omega
 clear hle
 by_cases hln:l.length=n
 ·subst hln
  go_enter Tryz.func212,Tryz.ntmps212
  go_wp2_with fail
  go_loopw [5] (fun u5 wr=>∃ (k:Nat),k<=l.length/\u5= .int .i64 k/\(∀x∈l.take k,x.ok)/\Below w.heap.size w wr) (fun u5 _=>l.length- (intOf u5).toNat)
  case atStart=>exact⟨0,zZL _,rfl,fun x h=>by simp at h,Below.refl _ _⟩
  case round=>
   obtain⟨k,hk,rfl,hok,hb⟩:=hrel
   have HOK:=zH hok
   clear hok
   by_cases hkl:k<l.length
   ·obtain⟨xa,xb,c1,c2,c3,hxa,hxb⟩:=(ha.below hb).at' k hkl
    obtain⟨c1a,c1l,c1k,rfl,_⟩:=hxa.slen.1
    obtain⟨c2a,c2l,c2k,rfl,_⟩:=hxb.slen.1
    obtain⟨x,hx⟩:∃x,l[k]'hkl=x:=⟨_,rfl⟩
    rw[hx]at c1 hxa hxb
    have HMEM:Hid (x∈l):=zH (by rw[<-hx];exact zGM hkl)
    have HTK:Hid (l.take (k+1)=l.take k++ [x]):=zH (by rw[zxc l k hkl,hx])
    have hA:zdc wr (.agg #[.bool x.neg, .slice c1a c1l c1k, .slice c2a c2l c2k]) x.neg x.n x.d:=⟨_,_,rfl,hxa,hxb⟩
    clear hxa hxb hx
    by_cases hko:x.ok
    ·have HX:Hid (okN x.n x.d):=zH hko
     clear hko
     go_wp2_with (go_at_call 49;(with_reducible refine(zlm _ x.neg x.n x.d _ hA HX.out).mono ?_);rintro e w7 ⟨rfl,hb7⟩)
     go_roundw
     case rel=>exact⟨k+1,hkl,by go_num,fun y hy=>by
      rw[HTK.out]at hy
      rcases List.mem_append.1 hy with h | h
      ·exact HOK.out y h
      ·have :y=x:=by simpa using h
       rw[this];exact HX.out,zaa hb hb7⟩
     case measure=>simp[intOf];omega
    ·have HX:Hid (¬okN x.n x.d):=zH hko
     have HBAD:Hid (¬vecP l l.length):=zH (fun h=>hko (h.1 x HMEM.out))
     clear hko
     go_wp2_with (go_at_call 49;(with_reducible refine(zms _ x.neg x.n x.d _ hA HX.out).mono ?_);rintro e w7 ⟨rfl,hb7⟩)
     go_ret
     exact⟨by rw[decide_eq_false HBAD.out];rfl,zaa hb hb7⟩
   ·obtain rfl:k=l.length:=by omega
    have HD:Hid (vecP l l.length):=zH (by
     have h:=HOK.out
     rw[List.take_length]at h
     exact⟨h,rfl⟩)
    go_wp2_with fail
    go_ret
    exact⟨by rw[decide_eq_true HD.out];rfl,hb⟩
 ·have HBAD:Hid (¬vecP l n):=zH (fun h=>hln h.2)
  have hne:((l.length:Int) != (n:Int))=true:=by simp;omega
  clear hln
  go_enter Tryz.func212,Tryz.ntmps212
  go_wp2_with fail
  go_ret
  exact⟨by rw[decide_eq_false HBAD.out];rfl,Below.refl _ _⟩
theorem rweights_any (va:Value) (m:List (List RF)) (w:World) (ha:zlw w va m) (hs:zqh m):
 Calls Tryz.prog 174 #[va] w fun e w'=>e= .returned (.int .i64 (zxr m:Nat))/\Below w.heap.size w w':=by
 have sa:=ha.sl
 have la:=ha.len
 have hml:m.length<=24:=hs.2.1
 have HOK:Hid (∀l∈m,∀x∈l,x.ok):=zH fun l hl=>(hs.2.2.2.2 l hl).1
 have HL:Hid (∀l∈m,l.length<=65536):=zH fun l hl=>by rw[(hs.2.2.2.2 l hl).2];have:=hs.2.2.2.1;omega
 clear hs
 go_enter Tryz.func174,Tryz.ntmps174
 go_wp2_with fail
 go_loopw [3,4] (fun u3 u4 wr=>∃ (k:Nat),k<=m.length/\u4= .int .i64 k/\u3= .int .i64 (zxr (m.take k):Nat)/\Below w.heap.size w wr) (fun _ u4 _=>m.length- (intOf u4).toNat)
 case atStart=>exact⟨0,zZL _,rfl,rfl,Below.refl _ _⟩
 case round=>
  obtain⟨k,hk,rfl,rfl,hb⟩:=hrel
  by_cases hkm:k<m.length
  ·obtain⟨rv,hrc,hrv⟩:=(ha.below hb).at' k hkm
   have hW:zxr (m.take k)<=536870912*24:=by
    have h1:=zit (m.take k) (fun l h=>HOK.out l (List.mem_of_mem_take h)) (fun l h=>HL.out l (List.mem_of_mem_take h))
    rw[List.length_take]at h1;omega
   have hlk:=HL.out m[k] (zGM hkm)
   have HOKL:=zH (HOK.out m[k] (zGM hkm))
   have hwl:=zgt m[k] HOKL.out
   have HTM:=zH (zht m k hkm)
   generalize m[k]'hkm=l at *
   generalize zxr (m.take k)=W0 at *
   obtain⟨W1,hW1⟩:∃W1,wts (qs l)=W1:=⟨_,rfl⟩
   rw[hW1]at hwl
   have HW1:=zH hW1
   have hwl2:W1<=8192*65536:=zLT hwl (zML _ hlk)
   have srv:=hrv.sl
   clear hW1 hwl
   go_wp2_with (go_at_call 175;(with_reducible refine(zvr _ l _ hrv HOKL.out hlk).mono ?_);rw[HW1.out];rintro e w7 ⟨rfl,hb7⟩)
   go_roundw
   case rel=>exact⟨k+1,hkm,by go_num,by rw[HTM.out,HW1.out];go_num,zaa hb hb7⟩
   case measure=>simp[intOf];omega
  ·obtain rfl:k=m.length:=by omega
   rw[List.take_length]
   go_wp2_with fail
   go_ret
   exact⟨rfl,hb⟩
theorem r5mul_raw (va vb:Value) (x y:RF) (w:World) (ha:zdc w va x.neg x.n x.d) (hb:zdc w vb y.neg y.n y.d) (hx:x.ok) (hy:y.ok) (hf:fits (x.q*y.q)):Calls Tryz.prog 209 #[va,vb] w (RF1 w (x.q*y.q)):=by
 obtain⟨a1,a2,rfl,n1,n2⟩:=id ha
 obtain⟨b1,b2,rfl,m1,m2⟩:=id hb
 obtain⟨x1,y1,z1,rfl,_⟩:=id n1.slen.1
 obtain⟨x2,y2,z2,rfl,_⟩:=id n2.slen.1
 obtain⟨x3,y3,z3,rfl,_⟩:=id m1.slen.1
 obtain⟨x4,y4,z4,rfl,_⟩:=id m2.slen.1
 obtain⟨s,hs⟩:∃s,x.neg=s:=⟨_,rfl⟩
 obtain⟨t,ht⟩:∃t,y.neg=t:=⟨_,rfl⟩
 have HX:Hid (okN x.n x.d):=zH hx
 have HY:Hid (okN y.n y.d):=zH hy
 have HQ:Hid (x.q*y.q=fq s x.n x.d*fq t y.n y.d):=zH (by unfold RF.q;rw[hs,ht])
 have HF:Hid (fits (fq s x.n x.d*fq t y.n y.d)):=zH (by rw[<-HQ.out];exact hf)
 rw[hs]at ha |-
 rw[ht]at hb |-
 clear n1 n2 m1 m2 hx hy hf hs ht
 have k1:=zca w (.cells #[.bool s, .slice x1 y1 z1, .slice x2 y2 z2] 38)
 have H3:=zmc w 38 (.bool s) (.slice x1 y1 z1) (.slice x2 y2 z2) (.bool t) (.slice x3 y3 z3) (.slice x4 y4 z4) (.bool false) (.slice none 0 0) (.slice none 0 0) _ rfl
 obtain⟨hA,hB,hR,hbw⟩:=H3
 have HR:=zH hR
 have HAP:=zH (ha.below hbw)
 have HBQ:=zH (hb.below hbw)
 obtain⟨_,c0,c1,c2,_,_,_⟩:=id hA
 obtain⟨_,d0,d1,d2,_,_,_⟩:=id hB
 clear hA hB hR ha hb
 go_enter Tryz.func209,Tryz.ntmps209
 go_wp2_with (go_at_call 38;(with_reducible refine(r2mul_raw _ _ s t x.n x.d y.n y.d _ HAP.out HBQ.out HX.out HY.out HF.out).mono ?_);rintro e6 w6 ⟨v6,rfl,hv6,hb6⟩
              obtain⟨t9,x9,y9,rfl,⟨a91,l91,k91,rfl,_⟩,⟨a92,l92,k92,rfl,_⟩⟩:=hv6.isF
              have hv6:=hv6.below (zca w6 (.cells #[.bool t9, .slice a91 l91 k91, .slice a92 l92 k92] 38))
              have HR6:=zH ((HR.out.belowS hb6).belowS (zca w6 (.cells #[.bool t9, .slice a91 l91 k91, .slice a92 l92 k92] 38)))
              obtain⟨_,g0,g1,g2,g3,g4,g5⟩:=HR6.out)
 rw[HQ.out]
 refine zab rfl rfl Tryz.aggF Tryz.sizeF (HR6.out.set _ _ _) rfl ?_
 exact⟨_,rfl,hv6.set3 HR6.out (fun z=>by simp) (fun z=>by simp) _ _ _,zga (zaa (zaa hbw hb6) (zca _ _)) (zLT (Nat.le_succ _) (Nat.le_succ _)) _ _ _⟩
theorem r5add_can (va vb:Value) (p q:Rat) (w:World) (ha:zqa w va p) (hb:zqa w vb q) (hp:fits p) (hq:fits q) (hf:fits (p+q)):Calls Tryz.prog 208 #[va,vb] w (RF1 w (p+q)):=by
 obtain⟨a1,a2,rfl,n1,n2⟩:=id ha
 obtain⟨b1,b2,rfl,m1,m2⟩:=id hb
 obtain⟨x1,y1,z1,rfl,_⟩:=id n1.v.sl
 obtain⟨x2,y2,z2,rfl,_⟩:=id n2.v.sl
 obtain⟨x3,y3,z3,rfl,_⟩:=id m1.v.sl
 obtain⟨x4,y4,z4,rfl,_⟩:=id m2.v.sl
 obtain⟨s,hs⟩:∃s,decide (p<0)=s:=⟨_,rfl⟩
 obtain⟨t,ht⟩:∃t,decide (q<0)=t:=⟨_,rfl⟩
 have HX:=zH hp
 have HY:=zH hq
 have HF:=zH hf
 rw[hs]at ha |-
 rw[ht]at hb |-
 clear n1 n2 m1 m2 hp hq hf hs ht
 have k1:=zca w (.cells #[.bool s, .slice x1 y1 z1, .slice x2 y2 z2] 38)
 have H3:=zmc w 38 (.bool s) (.slice x1 y1 z1) (.slice x2 y2 z2) (.bool t) (.slice x3 y3 z3) (.slice x4 y4 z4) (.bool false) (.slice none 0 0) (.slice none 0 0) _ rfl
 obtain⟨hA,hB,hR,hbw⟩:=H3
 have HR:=zH hR
 have HAP:=zH (ha.below hbw)
 have HBQ:=zH (hb.below hbw)
 obtain⟨_,c0,c1,c2,_,_,_⟩:=id hA
 obtain⟨_,d0,d1,d2,_,_,_⟩:=id hB
 clear hA hB hR ha hb
 go_enter Tryz.func208,Tryz.ntmps208
 go_wp2_with (go_at_call 19;(with_reducible refine(zhv _ _ p q _ HAP.out HBQ.out HX.out HY.out HF.out).mono ?_);rintro e6 w6 ⟨v6,rfl,hv6,hb6⟩
              obtain⟨t9,x9,y9,rfl,⟨a91,l91,k91,rfl,_⟩,⟨a92,l92,k92,rfl,_⟩⟩:=hv6.isF
              have hv6:=hv6.below (zca w6 (.cells #[.bool t9, .slice a91 l91 k91, .slice a92 l92 k92] 38))
              have HR6:=zH ((HR.out.belowS hb6).belowS (zca w6 (.cells #[.bool t9, .slice a91 l91 k91, .slice a92 l92 k92] 38)))
              obtain⟨_,g0,g1,g2,g3,g4,g5⟩:=HR6.out)
 refine zab rfl rfl Tryz.aggF Tryz.sizeF (HR6.out.set _ _ _) rfl ?_
 exact⟨_,rfl,hv6.set3 HR6.out (fun z=>by simp) (fun z=>by simp) _ _ _,zga (zaa (zaa hbw hb6) (zca _ _)) (zLT (Nat.le_succ _) (Nat.le_succ _)) _ _ _⟩
section
variable {P:Program} {md:Region.Mode} {ops:Array Oper} {Q:Exit->Act->World->Prop} {S:World->Prop} {z:Nat}
def wpL (P:Program) (md:Region.Mode) (ops:Array Oper) (Q:Exit->Act->World->Prop) (S:World->Prop) (z:Nat):Nat->Array Bool->Act->World->Prop
 | 0,l,a,w=>Region.ready md ops l= []/\Q .normal a w
 | k+1,l,a,w=>(Region.ready md ops l= []->Q .normal a w)/\∀i∈Region.ready md ops l,wpOp P ops Q i (fun b v=>((l.setIfInBounds i true).getD z false=false->S v)/\wpL P md ops Q S z k (l.setIfInBounds i true) b v) a w
theorem wpL.any :∀ (k:Nat) (l:Array Bool) (a:Act) (w:World),wpL P md ops Q S z k l a w->wpAny P md ops Q k l a w
 | 0,_,_,_,h=>h
 | k+1,_,_,_,h=>⟨h.1,fun i hi=>wpOp_mono (fun b v g=>wpL.any k _ b v g.2) (h.2 i hi)⟩
theorem wpL.first {i:Nat} {o:Oper} {v:Value} (hi:ops[i]? =some o) (hs:Region.noSelect ops=true) (hw:waitT md ops i 14 z=true) (hQ:∀c a w,Q (.panic c) (a.put o.dst v) w->Q (.panic c) a w):
 ∀ (k:Nat) (l:Array Bool) (a:Act) (w:World),Shut md ops l->l.getD z false=false->(∀j p,ops[j]? =some p->j≠i->l.getD j true=false->(∀e∈p.after,Region.binds md e=true->e.on≠i)->o.apart ops p=true)->
  i∈Region.ready md ops l->YieldsIf P ops S o v a->S w->wpL P md ops Q S z k (l.setIfInBounds i true) (a.put o.dst v) w->wpL P md ops Q S z (k+1) l a w
 | 0,l,a,w,_,_,_,hr,hy,hS,H=>by
   refine⟨(fun h=>by rw[h]at hr;cases hr),fun j hj=> ?_⟩
   by_cases e:j=i
   ·subst e;exact hy.wpOp hi hS ⟨fun _=>hS,H⟩
   ·have h1:=ready_mono hj e
    rw[H.1]at h1
    cases h1
 | k+1,l,a,w,hsh,hlz,hfr,hr,hy,hS,H=>by
   refine⟨(fun h=>by rw[h]at hr;cases hr),fun j hj=> ?_⟩
   by_cases e:j=i
   ·subst e;exact hy.wpOp hi hS ⟨fun _=>hS,H⟩
   ·obtain⟨hun,p,hp,_⟩:=mem_ready.1 hj
    have hno:=zeh hj hr hp
    have hjz:j≠z:=by
     intro hjz
     subst hjz
     obtain⟨_,p',hp',hall⟩:=mem_ready.1 hj
     exact zqg (zng hsh 14 j p' hw hp' hall) (mem_ready.1 hr).1
    have hiz:i≠z:=by
     intro hiz
     subst hiz
     obtain⟨_,p',hp',hall⟩:=mem_ready.1 hr
     exact zqg (zng hsh 14 i p' hw hp' hall) (mem_ready.1 hr).1
    have hz1:(l.setIfInBounds j true).getD z false=false:=by rw[getD_set_ne false hjz];exact hlz
    have hz2:((l.setIfInBounds i true).setIfInBounds j true).getD z false=false:=by rw[getD_set_ne false hjz,getD_set_ne false hiz];exact hlz
    have hsel:=fun(j:Nat) (o:Oper) cs b (h:ops[j]? =some o)=>Region.noSelect_spec hs j o cs b h
    have h2:=wpOp_putIf hp (hfr j p hp e hun hno) (fun cs b=>hsel i o cs b hi) (fun cs b=>hsel j p cs b hp) hQ hy (H.2 j (ready_mono hj e))
    refine wpOp_mono (fun b u g=>⟨fun _=>g.2.1 hz2,wpL.first hi hs hw hQ k (l.setIfInBounds j true) b u (hsh.set hj) hz1 ?_ (ready_mono hr (Ne.symm e)) g.1 (g.2.1 hz2) ?_⟩) h2
    ·intro x q hq hxi hxl hxw
     refine hfr x q hq hxi ?_ hxw
     by_cases hjx:j=x
     ·subst hjx;exact hun
     ·rwa[getD_set_ne true hjx]at hxl
    ·rw[Array.setIfInBounds_comm _ _ e]
     exact g.2.2
theorem wpL.firstU {i:Nat} {o:Oper} {v:Value} (hi:ops[i]? =some o) (hs:Region.noSelect ops=true) (hiz:i≠z) (hQ:∀c a w,Q (.panic c) (a.put o.dst v) w->Q (.panic c) a w):
 ∀ (k:Nat) (l:Array Bool) (a:Act) (w:World),Shut md ops l->(∀j p,ops[j]? =some p->j≠i->l.getD j true=false->(∀e∈p.after,Region.binds md e=true->e.on≠i)->o.apart ops p=true)->
  i∈Region.ready md ops l->YieldsIf P ops (fun _=>True) o v a->(l.getD z false=false->S w)->wpL P md ops Q S z k (l.setIfInBounds i true) (a.put o.dst v) w->wpL P md ops Q S z (k+1) l a w
 | 0,l,a,w,_,_,hr,hy,hS,H=>by
   refine⟨(fun h=>by rw[h]at hr;cases hr),fun j hj=> ?_⟩
   by_cases e:j=i
   ·subst e;exact hy.wpOp hi trivial ⟨fun h=>hS (by rwa[getD_set_ne false hiz]at h),H⟩
   ·have h1:=ready_mono hj e
    rw[H.1]at h1
    cases h1
 | k+1,l,a,w,hsh,hfr,hr,hy,hS,H=>by
   refine⟨(fun h=>by rw[h]at hr;cases hr),fun j hj=> ?_⟩
   by_cases e:j=i
   ·subst e;exact hy.wpOp hi trivial ⟨fun h=>hS (by rwa[getD_set_ne false hiz]at h),H⟩
   ·obtain⟨hun,p,hp,_⟩:=mem_ready.1 hj
    have hno:=zeh hj hr hp
    have hsel:=fun(j:Nat) (o:Oper) cs b (h:ops[j]? =some o)=>Region.noSelect_spec hs j o cs b h
    have h2:=wpOp_putIf hp (hfr j p hp e hun hno) (fun cs b=>hsel i o cs b hi) (fun cs b=>hsel j p cs b hp) hQ hy (H.2 j (ready_mono hj e))
    have hzz:(l.setIfInBounds j true).getD z false=false->((l.setIfInBounds i true).setIfInBounds j true).getD z false=false:=fun h=>by
     rw[<-Array.setIfInBounds_comm _ _ e,getD_set_ne false hiz];exact h
    refine wpOp_mono (fun b u g=>⟨fun h=>g.2.1 (hzz h),wpL.firstU hi hs hiz hQ k (l.setIfInBounds j true) b u (hsh.set hj) ?_ (ready_mono hr (Ne.symm e)) g.1 (fun h=>g.2.1 (hzz h)) ?_⟩) h2
    ·intro x q hq hxi hxl hxw
     refine hfr x q hq hxi ?_ hxw
     by_cases hjx:j=x
     ·subst hjx;exact hun
     ·rwa[getD_set_ne true hjx]at hxl
    ·rw[Array.setIfInBounds_comm _ _ e]
     exact g.2.2
theorem wpL.take (i:Nat) {fuel:Nat} {l:Array Bool} {a:Act} {w:World} (hs:Region.noSelect ops=true) (hw:waitT md ops i 14 z=true) (hz:l.getD z false=false) (hc:shutB md ops l=true) (hf:Region.free md ops l i=true) (hr:(Region.ready md ops l).contains i=true) (hS:S w) (hi:(ops[i]?).isSome=true)
 (h:∀o,ops[i]? =some o->∃v,(∀c a w,Q (.panic c) (a.put o.dst v) w->Q (.panic c) a w)/\YieldsIf P ops S o v a/\wpL P md ops Q S z fuel (l.setIfInBounds i true) (a.put o.dst v) w):wpL P md ops Q S z (fuel+1) l a w:=by
 obtain⟨o,ho⟩:=Option.isSome_iff_exists.1 hi
 obtain⟨v,h1,h2,h3⟩:=h o ho
 exact wpL.first ho hs hw h1 fuel l a w (zri hc) hz (Region.free_spec ho hf) (by simpa using hr) h2 hS h3
theorem wpL.takeU (i:Nat) {fuel:Nat} {l:Array Bool} {a:Act} {w:World} (hs:Region.noSelect ops=true) (hiz:Nat.beq i z=false) (hc:shutB md ops l=true) (hf:Region.free md ops l i=true) (hr:(Region.ready md ops l).contains i=true) (hS:S w) (hi:(ops[i]?).isSome=true)
 (h:∀o,ops[i]? =some o->∃v,(∀c a w,Q (.panic c) (a.put o.dst v) w->Q (.panic c) a w)/\YieldsIf P ops (fun _=>True) o v a/\wpL P md ops Q S z fuel (l.setIfInBounds i true) (a.put o.dst v) w):wpL P md ops Q S z (fuel+1) l a w:=by
 obtain⟨o,ho⟩:=Option.isSome_iff_exists.1 hi
 obtain⟨v,h1,h2,h3⟩:=h o ho
 exact wpL.firstU ho hs (fun e=>by subst e;rw[Nat.beq_refl]at hiz;cases hiz) h1 fuel l a w (zri hc) (Region.free_spec ho hf) (by simpa using hr) h2 (fun _=>hS) h3
theorem wpL.one (k:Nat) {fuel:Nat} {l:Array Bool} {a:Act} {w:World} (hr:Region.ready md ops l= [k]) (hi:(ops[k]?).isSome=true)
 (h:∀o,ops[k]? =some o->∀K:Act->World->Prop,Hid (∀b v,((l.setIfInBounds k true).getD z false=false->S v)->wpL P md ops Q S z fuel (l.setIfInBounds k true) b v->K b v)->if Region.wanted o (yielded ops a.tmps)=true then o.wp P a w K Q else K (a.put o.dst undef) w):wpL P md ops Q S z (fuel+1) l a w:=by
 obtain⟨o,ho⟩:=Option.isSome_iff_exists.1 hi
 refine⟨(fun h0=>by rw[hr]at h0;cases h0),fun j hj=> ?_⟩
 rw[hr]at hj
 obtain rfl:j=k:=by simpa using hj
 have h1:=h o ho _ (zH fun b v h2 h3=>(⟨h2,h3⟩:((l.setIfInBounds j true).getD z false=false->S v)/\_))
 unfold wpOp
 simp only[ho]
 by_cases hw:Region.wanted o (yielded ops a.tmps)=true
 ·rw[if_pos hw]at h1 |-
  exact Or.inl h1
 ·rw[if_neg hw]at h1 |-
  exact h1
theorem wpL.done {l:Array Bool} {a:Act} {w:World} (hr:Region.ready md ops l= []) (h:Q .normal a w):∀fuel,wpL P md ops Q S z fuel l a w
 | 0=>⟨hr,h⟩
 | _+1=>⟨fun _=>h,by rw[hr];simp⟩
theorem wpL.start {id:Nat} {a:Act} {w:World} (z:Nat) (S:World->Prop) (hm:P.follows .mixedOrders=true) (hS:S w.drew) (h:S w.drew->wpL P .any ops Q S z ops.size (Array.replicate ops.size false) a w.drew):(Code.region id ops true).wp P Q a w:=
 wp_region_any hm (wpL.any _ _ _ _ (h hS))
end
section
variable {P:Program} {md:Region.Mode} {ops:Array Oper} {Q:Exit->Act->World->Prop} {S:World->Prop} {z:Nat} {fuel:Nat} {l l':Array Bool} {a a':Act} {w:World} {o:Oper} {v:Value}
theorem wpL.t (i:Nat) (h:wpL P md ops Q S z fuel l' a' w) (ho:ops[i]? =some o:=by(simp only[List.getElem?_toArray,List.getElem?_cons_succ,List.getElem?_cons_zero];rfl)) (hs:Region.noSelect ops=true:=by kernel_rfl) (hw:waitT md ops i 14 z=true:=by kernel_rfl) (hz:l.getD z false=false:=by kernel_rfl) (hc:shutB md ops l=true:=by kernel_rfl) (hf:Region.free md ops l i=true:=by kernel_rfl) (hr:(Region.ready md ops l).contains i=true:=by kernel_rfl) (hS:S w:=by assumption)
 (hQ:∀c a w,Q (.panic c) (a.put o.dst v) w->Q (.panic c) a w:=by exact fun _ _ _ h=>h) (hy:YieldsIf P ops S o v a:=by first | exact Or.inr ⟨by rfl,rfl⟩ | (refine Or.inl ⟨by rfl,?_⟩;intro w hSw;(try dsimp only at hSw);go_simp;try with_reducible rfl))
 (hl:l.setIfInBounds i true=l':=by((try simp only[List.setIfInBounds_toArray,List.set_cons_zero,List.set_cons_succ]);rfl)) (ha:a.put o.dst v=a':=by(simp only[Act.put,List.setIfInBounds_toArray,List.set_cons_zero,List.set_cons_succ];rfl)):wpL P md ops Q S z (fuel+1) l a w:=by
 subst hl ha
 exact wpL.first ho hs hw hQ fuel l a w (zri hc) hz (Region.free_spec ho hf) (by simpa using hr) hy hS h
theorem wpL.u (i:Nat) (h:wpL P md ops Q S z fuel l' a' w) (ho:ops[i]? =some o:=by(simp only[List.getElem?_toArray,List.getElem?_cons_succ,List.getElem?_cons_zero];rfl)) (hs:Region.noSelect ops=true:=by kernel_rfl) (hiz:Nat.beq i z=false:=by kernel_rfl) (hc:shutB md ops l=true:=by kernel_rfl) (hf:Region.free md ops l i=true:=by kernel_rfl) (hr:(Region.ready md ops l).contains i=true:=by kernel_rfl) (hS:S w:=by assumption)
 (hQ:∀c a w,Q (.panic c) (a.put o.dst v) w->Q (.panic c) a w:=by exact fun _ _ _ h=>h) (hy:YieldsIf P ops (fun _=>True) o v a:=by first | exact Or.inr ⟨by rfl,rfl⟩ | (refine Or.inl ⟨by rfl,?_⟩;intro w hSw;(try dsimp only at hSw);go_simp;try with_reducible rfl))
 (hl:l.setIfInBounds i true=l':=by((try simp only[List.setIfInBounds_toArray,List.set_cons_zero,List.set_cons_succ]);rfl)) (ha:a.put o.dst v=a':=by(simp only[Act.put,List.setIfInBounds_toArray,List.set_cons_zero,List.set_cons_succ];rfl)):wpL P md ops Q S z (fuel+1) l a w:=by
 subst hl ha
 exact wpL.firstU ho hs (fun e=>by subst e;rw[Nat.beq_refl]at hiz;cases hiz) hQ fuel l a w (zri hc) (Region.free_spec ho hf) (by simpa using hr) hy (fun _=>hS) h
theorem wpL.oo (k:Nat) (h:∀K:Act->World->Prop,Hid (∀b v,((l.setIfInBounds k true).getD z false=false->S v)->wpL P md ops Q S z fuel (l.setIfInBounds k true) b v->K b v)->if Region.wanted o (yielded ops a.tmps)=true then o.wp P a w K Q else K (a.put o.dst undef) w)
 (ho:ops[k]? =some o:=by(simp only[List.getElem?_toArray,List.getElem?_cons_succ,List.getElem?_cons_zero];rfl)) (hr:Region.ready md ops l= [k]:=by kernel_rfl):wpL P md ops Q S z (fuel+1) l a w:=
 wpL.one k hr (by rw[ho];rfl) fun o' h'=>by rw[ho]at h';injection h' with h';subst h';exact h
end
theorem r5mul_can (va vb:Value) (p q:Rat) (w:World) (ha:zqa w va p) (hb:zqa w vb q) (hp:fits p) (hq:fits q) (hf:fits (p*q)):Calls Tryz.prog 209 #[va,vb] w (RF1 w (p*q)):=by
 have h:=r5mul_raw va vb (RF.of p) (RF.of q) w ha.raw hb.raw (RF.of_ok hp) (RF.of_ok hq) (by rw[RF.of_q,RF.of_q];exact hf)
 rw[RF.of_q,RF.of_q]at h
 exact h
theorem zpv {fn:Func} {p u:Tmp} {ty:TypeId} (h:fn.results=#[.tmp u, .cell p ty]) (tmps:Array Value) (P:Program) (w:World):
 (results fn tmps).run P w=((asAddr (tmps.getD p undef)).run P w).andThen fun a w1=>((loadVar ty a).run P w1).andThen fun v w2=> .ok (.tuple #[tmps.getD u undef,v]) w2:=by
 simp only[results,h]
 simp[Sem.run_bind,Result.andThen]
theorem bodyPost_1c {P:Program} {fn:Func} {R:Ending->World->Prop} {a:Act} {w:World} {p u:Tmp} {ty:TypeId} {b:Nat} {v0 v1 v2:Value} (h:fn.results=#[.tmp u, .cell p ty])
 (hp:a.tmps.getD p undef= .pointer (some ⟨b,0,none⟩)) (hagg:∀w,(isAgg ty).run P w= .ok true w) (hs:∀w,(sizeOf ty).run P w= .ok 3 w) (hc:C3 w b v0 v1 v2) (hd:a.defers= [])
 (hR:R (.returned (.tuple #[a.tmps.getD u undef, .agg #[v0,v1,v2]])) w):bodyPost P fn R .ret a w:=by
 refine bodyPost_ret ?_ hd hR
 rw[zpv h,hp]
 simp only[asAddr,Sem.run_pure,Result.andThen_ok,load_c3 hagg hs hc]
section
variable {w w' wr:World} {B S b7 n:Nat} {vt r:Value} {y:Nat->Rat} {t':Bool} {a1 a2:Option Addr} {l1 k1 l2 k2:Nat} {q:Rat}
end
theorem neg_lt {q:Rat} (h:q≠0):(!decide (q<0))=decide (-q<0):=by
 by_cases h1:q<0
 ·rw[decide_eq_true h1,decide_eq_false (by grind)];rfl
 ·rw[decide_eq_false h1,decide_eq_true (by grind)];rfl
set_option maxHeartbeats 800000 in
theorem zmv (v:Value) (q:Rat) (w:World) (h:zqa w v q):Calls Tryz.prog 105 #[v] w (RF1 w (-q)):=by
 have H0:=zH h
 obtain⟨a,b,rfl,ha,hb⟩:=id h
 obtain⟨aa,al,ak,rfl,_⟩:=id ha.v.sl
 obtain⟨ba,bl,bk,rfl,_⟩:=id hb.v.sl
 have hbx:=zca w (.cells #[.bool (decide (q<0)), .slice aa al ak, .slice ba bl bk] 38)
 have hb2:=zca (w.alloc (.cells #[.bool (decide (q<0)), .slice aa al ak, .slice ba bl bk] 38)) (.cells #[.bool false, .slice none 0 0, .slice none 0 0] 38)
 have hC:=(C3.new w 38 (.bool (decide (q<0))) (.slice aa al ak) (.slice ba bl bk)).belowS hb2
 have hR:=C3.newB (b:=w.heap.size+1) (w.alloc (.cells #[.bool (decide (q<0)), .slice aa al ak, .slice ba bl bk] 38)) 38 (.bool false) (.slice none 0 0) (.slice none 0 0) (by simp)
 have HC:=zH hC
 have HR:=zH hR
 have HQ:=zH ((h.below hbx).below hb2)
 have HA:=zH (((ha.below hbx).below hb2).nat)
 have hbb:=zaa hbx hb2
 have HLN:Hid (zda q.num.natAbs=0↔q=0):=zH (by rw[zta];constructor<;>intro h<;>simp_all)
 obtain⟨_,c0,c1,c2,_,_,_⟩:=id hC
 clear hC hR h ha hb
 by_cases hz:q=0
 ·have HZ:=zH hz
  clear hz
  go_enter Tryz.func105,Tryz.ntmps105
  go_wp2_with (go_at_call 106;(with_reducible refine(zra _ q.num.natAbs _ HA.out).mono ?_);rintro e1 w1 ⟨r1,rfl,hr1,hb1⟩
               have s1:=hr1.v.sl
               have l1:slen r1=0:=hr1.v.len.trans (HLN.out.2 HZ.out)
               obtain⟨_,c0,c1,c2,_,_,_⟩:=HC.out.belowS hb1
               have HR1:=zH (HR.out.belowS hb1)
               obtain⟨_,d0,d1,d2,d3,d4,d5⟩:=HR1.out)
  refine zab rfl rfl Tryz.aggF Tryz.sizeF (HR1.out.set _ _ _) rfl ?_
  refine⟨_,rfl,?_,zga (zaa hbb hb1) (Nat.le_succ _) _ _ _⟩
  have h9: -q=q:=by rw[HZ.out];decide+kernel
  rw[h9]
  exact(HQ.out.below hb1).set3 HR1.out (fun z=>by simp) (fun z=>by simp) _ _ _
 ·have HZ:=zH hz
  have hl:∃L,zda q.num.natAbs=L/\0<L:=⟨_,rfl,Nat.pos_of_ne_zero fun e=>hz (HLN.out.1 e)⟩
  obtain⟨L,hL,hL0⟩:=hl
  have HL:=zH hL
  clear hz hL
  go_enter Tryz.func105,Tryz.ntmps105
  go_wp2_with (go_at_call 106;(with_reducible refine(zra _ q.num.natAbs _ HA.out).mono ?_);rintro e1 w1 ⟨r1,rfl,hr1,hb1⟩
               have s1:=hr1.v.sl
               have l1:slen r1=L:=hr1.v.len.trans HL.out
               obtain⟨_,c0,c1,c2,_,_,_⟩:=HC.out.belowS hb1
               have HR1:=zH (HR.out.belowS hb1)
               obtain⟨_,d0,d1,d2,d3,d4,d5⟩:=HR1.out)
  refine zab rfl rfl Tryz.aggF Tryz.sizeF (HR1.out.set _ _ _) rfl ?_
  refine⟨_,rfl,?_,zga (zaa hbb hb1) (Nat.le_succ _) _ _ _⟩
  obtain⟨_,_,e9,e10,e11⟩:=HQ.out.below hb1
  injection e9 with e9
  injection e9 with e9
  simp only[List.cons.injEq,and_true]at e9
  obtain⟨_,rfl,rfl⟩:=e9
  have hN:zqa w1 (.agg #[.bool (!decide (q<0)), .slice aa al ak, .slice ba bl bk]) (-q):=⟨_,_,by rw[neg_lt HZ.out],by rw[Rat.neg_num,Int.natAbs_neg];exact e10,by rw[Rat.neg_den];exact e11⟩
  exact hN.set3 HR1.out (fun z=>by simp) (fun z=>by simp) _ _ _
end Go.Proofs.YtlpdkbmmbdfoiaaGreat
