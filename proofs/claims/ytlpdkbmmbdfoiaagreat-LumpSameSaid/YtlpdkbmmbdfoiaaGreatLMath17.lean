/-
  The sanity chain: the plain facts. No program is named here.
-/
import Derived.Test.YtlpdkbmmbdfoiaaGreatLMath22
import Derived.Test.YtlpdkbmmbdfoiaaGreatLLu11
import Derived.Test.YtlpdkbmmbdfoiaaGreatLMath16
set_option linter.unusedVariables false
set_option linter.unusedSimpArgs false
namespace Go.Proofs.YtlpdkbmmbdfoiaaGreat
open Go.RowKit
def RNum (w0:World) (l:List Int) (e:Ending) (w:World):Prop:=
 ∃v L,e= .returned v∧zce w 3 w0.heap.size v (List.map (Value.int .i64) L)∧L.length=l.length∧(okB l→L=l)∧Below w0.heap.size w0 w
set_option maxRecDepth 100000 in
set_option maxHeartbeats 3200000 in
theorem num_any (va:Value) (l:List Int) (w:World) (ha:zgv w va l) (hl:l.length≤128):Calls Tryz.prog 63 #[va] w (RNum w l):=by
 obtain⟨i1,hi1,hz1,hs1,hy1⟩:=info_parts Tryz.infoInt
 have hM1:=make_E (P:=Tryz.prog) 29 3 i1 _ 8 Tryz.underlying29 hi1 hz1 hs1 hy1 (by decide) rfl
 clear hi1 hz1 hs1 hy1
 obtain⟨aa,an,ak,rfl,_⟩:=id (zhc.sl ha)
 have han:an=l.length:=ha.len
 subst han
 have sa:zgc (.slice aa l.length ak):=zhc.sl ha
 go_enter Tryz.func63,Tryz.ntmps63
 go_wp2_with (refine hM1 _ rfl _ _ rfl l.length rfl rfl (by omega) ?_;intro v3 w3 hown3 hbel3;have s3:=hown3.sl;have l3:slen v3=l.length:=by rw[hown3.len,List.length_replicate])
 go_loopw [4,5] (fun u4 u5 wr=>∃ (k m:Nat) (es:List Int),k≤l.length∧u4= .int .i64 m∧u5= .int .i64 k∧zce wr 3 w.heap.size v3 (es.map (Value.int .i64))∧NumI l k m es∧Below w.heap.size w wr) (fun _ u5 _=>l.length- (intOf u5).toNat)
 case atStart=>exact⟨0,0,_,Nat.zero_le _,rfl,rfl,by rw[List.map_replicate];exact hown3,NumI.zero l,hbel3⟩
 case round=>
  obtain⟨k,m,es,hk,rfl,rfl,ho,hN,hbr⟩:=hrel
  have HO:=zH ho
  have HN:=zH hN
  by_cases hkl:k<l.length
  ·have hk9:k<(es.map (Value.int .i64)).length:=by rw[List.length_map,hN.len];exact hkl
   obtain⟨e0,hc9⟩:∃e0,wr.cell? (ptr v3 k)=some e0:=⟨_,ho.cell k hk9⟩
   have hf9:=ho.frozen k hk9
   have hset:=ho.set k hk9 (.int .i64 (-1))
   rw[←List.map_set]at hset
   have hJ:=hN.mark hkl
   have i1:(0:Int)≤(k:Int):=by omega
   have i2:(k:Int)<(l.length:Nat):=by omega
   have HSET:=zH hset
   have HJ:=zH hJ
   have hm1:=hN.le
   clear ho hN hset hJ hk9 HO HN
   go_wp2_with fail
   go_loopw [6] (fun u6 wi=>∃ (t:Nat) (es2:List Int),t≤k∧u6= .int .i64 t∧zce wi 3 w.heap.size v3 (es2.map (Value.int .i64))∧NumJ l k m t es2∧Below w.heap.size w wi) (fun u6 _=>k- (intOf u6).toNat)
   case atStart=>exact⟨0,_,Nat.zero_le _,rfl,HSET.out.1,HJ.out,hbr.trans HSET.out.2⟩
   case round=>
    obtain⟨t,es2,ht,rfl,ho,hJ2,hbi⟩:=hrel
    have HO:=zH ho
    have HJ2:=zH hJ2
    by_cases htk:t<k
    ·have hat:=(ha.below hbi).at' t (by omega)
     have hak:=(ha.below hbi).at' k hkl
     have HQ:Hid (l[t]? =l[k]? ↔l[t]'(by omega)=l[k]'hkl):=zH (by rw[List.getElem?_eq_getElem hkl,List.getElem?_eq_getElem (show t<l.length by omega)];simp)
     generalize hxt:l[t]'(by omega)=xt at *
     generalize hxk:l[k]'hkl=xk at *
     have i3:(0:Int)≤(t:Int):=by omega
     have i4:(t:Int)<(l.length:Nat):=by omega
     have i5:(t:Int)<(k:Nat):=by omega
     clear hxt hxk
     have ht9:t<(es2.map (Value.int .i64)).length:=by rw[List.length_map,hJ2.i.len];omega
     have hk9:k<(es2.map (Value.int .i64)).length:=by rw[List.length_map,hJ2.i.len];omega
     have HK9:=zH hk9
     have hct:=ho.cell t ht9
     obtain⟨e1,hck⟩:∃e1,wr.cell? (ptr v3 k)=some e1:=⟨_,ho.cell k hk9⟩
     have hfk:=ho.frozen k hk9
     have htl:t<es2.length:=by simpa using ht9
     have HG:=zH (List.getElem?_eq_getElem htl)
     simp only[List.getElem_map]at hct
     generalize es2[t]'htl=y at *
     by_cases hxx:xt=xk
     ·have hbq:(xt==xk)=true:=by simp[hxx]
      have HJ3:=zH (hJ2.hit htk (HQ.out.2 hxx) HG.out)
      clear hxx ho hJ2 ht9 hk9
      go_wp2_with fail
      go_quiet (fail)
      have hbN:=zka (B:=wr.heap.size) wr nq
      have HOD:=zH (HO.out.below hbN)
      have HBD:=zH (zaa hbi hbN)
      have hctD:=zba hbN hct
      have hfkD:=HOD.out.frozen k HK9.out
      have hckD:=zba hbN hck
      clear hct hck hfk
      go_wp2_with fail
      have hset:=HOD.out.set k HK9.out (.int .i64 y)
      rw[←List.map_set]at hset
      have HSET:=zH hset
      clear hset
      go_roundw
      case rel=>exact⟨t+1,_,by omega,by go_num,HSET.out.1,HJ3.out,HBD.out.trans HSET.out.2⟩
      case measure=>simp[intOf];omega
     ·have hbq:(xt==xk)=false:=by simpa using hxx
      have HJ3:=zH (hJ2.miss (fun h=>hxx (HQ.out.1 h)))
      clear hxx ho hJ2 ht9 hk9
      go_wp2_with fail
      go_quiet (fail)
      have hbN:=zka (B:=wr.heap.size) wr nq
      have HOD:=zH (HO.out.below hbN)
      have HBD:=zH (zaa hbi hbN)
      clear hct hck hfk
      go_wp2_with fail
      go_roundw
      case rel=>exact⟨t+1,_,by omega,by go_num,HOD.out,HJ3.out,HBD.out⟩
      case measure=>simp[intOf];omega
    ·obtain rfl:t=k:=by omega
     have hk9:t<(es2.map (Value.int .i64)).length:=by rw[List.length_map,hJ2.i.len];omega
     have HK9:=zH hk9
     have hck:=ho.cell t hk9
     have hfk:=ho.frozen t hk9
     have htl:t<es2.length:=by simpa using hk9
     have HG:=zH (List.getElem?_eq_getElem htl)
     simp only[List.getElem_map]at hck
     generalize es2[t]'htl=z at *
     have hbw:=hbi
     by_cases hz:z<0
     ·have HNI:=zH (hJ2.neg HG.out hz)
      clear ho hJ2 hk9
      go_wp2_with fail
      have hset:=HO.out.set t HK9.out (.int .i64 m)
      rw[←List.map_set]at hset
      have HSET:=zH hset
      clear hset
      go_roundw
      case rel=>exact⟨t+1,m+1,_,by omega,by go_num,by go_num,HSET.out.1,HNI.out,hbi.trans HSET.out.2⟩
      case measure=>simp[intOf];omega
     ·have HNI:=zH (hJ2.pos HG.out hz)
      clear ho hJ2 hk9
      go_wp2_with fail
      go_roundw
      case rel=>exact⟨t+1,m,_,by omega,rfl,by go_num,HO.out,HNI.out,hbi⟩
      case measure=>simp[intOf];omega
  ·obtain rfl:k=l.length:=by omega
   go_wp2_with fail
   go_ret
   exact⟨v3,es,rfl,HO.out,HN.out.len,fun h=>HN.out.done h,hbr⟩
end Go.Proofs.YtlpdkbmmbdfoiaaGreat
namespace Go.Proofs.YtlpdkbmmbdfoiaaGreat
def cAw :CQ:=⟨[[0,0,1],[0,0,1],[0,0,0]],[1,0,0],[false,false,true]⟩
theorem zeq.one :zeq 1:=⟨1,1,by decide,by decide,by decide,by decide⟩
theorem small3 {a b c:Rat} (ha:a=0∨a=1) (hb:b=0∨b=1) (hc:c=0∨c=1):∀q∈ [a,b,c],zeq q:=by
 intro q hq
 have key:∀x:Rat,x=0∨x=1→zeq x:=fun x hx=>by
  rcases hx with rfl | rfl
  ·exact zeq.zero
  ·exact zeq.one
 simp at hq
 rcases hq with rfl | rfl | rfl
 ·exact key _ ha
 ·exact key _ hb
 ·exact key _ hc
theorem cAw_tape :zrr cAw:=by
 refine⟨by decide,by decide,rfl,rfl,small3 (Or.inr rfl) (Or.inl rfl) (Or.inl rfl),by decide+kernel,fun i r hr=> ?_⟩
 have hi:i<3:=(List.getElem?_eq_some_iff.1 hr).1
 rcases(show i=0∨i=1∨i=2 by omega)with rfl | rfl | rfl
 ·obtain rfl: [0,0,1]=r:=by simpa [cAw]using hr
  exact⟨rfl,small3 (Or.inl rfl) (Or.inl rfl) (Or.inr rfl),fun x hx=>by simpa using hx.symm,fun h=>by simp[cAw]at h⟩
 ·obtain rfl: [0,0,1]=r:=by simpa [cAw]using hr
  exact⟨rfl,small3 (Or.inl rfl) (Or.inl rfl) (Or.inr rfl),fun x hx=>by simpa using hx.symm,fun h=>by simp[cAw]at h⟩
 ·obtain rfl: [0,0,0]=r:=by simpa [cAw]using hr
  exact⟨rfl,small3 (Or.inl rfl) (Or.inl rfl) (Or.inl rfl),fun x hx=>by simpa using hx.symm,fun _ q hq=>by simpa using hq⟩
theorem ok001 :okB [0,0,1]:=by
 have h0:okB []:=fun k b h=>by simp at h
 have h1:okB ([]++ [0]):=zrx h0 (by decide) (by decide)
 have h2:okB (([]++ [0])++ [0]):=zrx h1 (by decide) (by decide)
 exact zrx h2 (by decide) (by decide)
theorem split001 {f:Nat→List Rat} {nx:List Int} (h:zfx [0,0,1] f nx) (hf:f 0=f 1):nx= [0,0,1]:=by
 obtain⟨ok,len,rel⟩:=h
 match nx,len with
 | [a,b,c],_=>
   obtain⟨a1,a2⟩:=ok 0 a rfl
   have ha:a=0:=by have :cnt ([a,b,c].take 0)=0:=rfl;rw[this]at a2;omega
   subst ha
   have hb:=(rel 0 1 0 0 rfl rfl).2 ⟨rfl,by rw[hf];exact zyw.refl _ _⟩
   have hb2:b=0:=by simpa using hb.symm
   subst hb2
   obtain⟨c1,c2⟩:=ok 2 c rfl
   have hc:c≠0:=fun e=>by
    subst e
    have:=((rel 0 2 0 1 rfl rfl).1 rfl).1
    omega
   have h2:cnt ([0,0,c].take 2)=1:=rfl
   rw[h2]at c2
   obtain rfl:c=1:=by omega
   rfl
theorem zoy (bl:List Int):sumF cAw.raw bl 0=sumF cAw.raw bl 1:=by unfold sumF;rw[zkr,zkr];rfl
theorem refs001 {bl:List Int} (h:Refs cAw.raw bl):bl= [0,0,1]:=by
 induction h with
 | zero=>decide
 | step h1 h2 ih=>subst ih;exact split001 h2 (zoy _)
theorem coarse001 {nx:List Int} (h:zox cAw.raw nx):nx= [0,0,1]:=by
 obtain⟨bl,h1,h2,_⟩:=h
 have:=refs001 h1
 subst this
 exact split001 h2 (zoy _)
theorem check001 :zex cAw.raw [0,0,1]:=by
 refine⟨ok001,by decide,by simp[CQ.raw,cAw],cAw_tape.valid,fun i j b hi hj=> ?_⟩
 have h1:i<3:=(List.getElem?_eq_some_iff.1 hi).1
 have h2:j<3:=(List.getElem?_eq_some_iff.1 hj).1
 have hs:=zoy [0,0,1]
 unfold sumF at hs
 rcases(show i=0∨i=1∨i=2 by omega)with rfl | rfl | rfl<;>rcases(show j=0∨j=1∨j=2 by omega)with rfl | rfl | rfl
 ·exact⟨rfl,zyw.refl _ _⟩
 ·exact⟨rfl,by show zyw b (ztw [0,0,1] (zaq cAw.raw 0) (cnt [0,0,1])) (ztw [0,0,1] (zaq cAw.raw 1) (cnt [0,0,1]));rw[hs];exact zyw.refl _ _⟩
 ·exfalso;simp at hi hj;omega
 ·exact⟨rfl,by show zyw b (ztw [0,0,1] (zaq cAw.raw 1) (cnt [0,0,1])) (ztw [0,0,1] (zaq cAw.raw 0) (cnt [0,0,1]));rw[hs];exact zyw.refl _ _⟩
 ·exact⟨rfl,zyw.refl _ _⟩
 ·exfalso;simp at hi hj;omega
 ·exfalso;simp at hi hj;omega
 ·exfalso;simp at hi hj;omega
 ·exact⟨rfl,zyw.refl _ _⟩
theorem check011 :¬zex cAw.raw [0,1,1]:=by
 rintro⟨_,_,_,_,h⟩
 have:=(h 1 2 1 rfl rfl).1
 simp[CQ.raw,cAw]at this
theorem quo001 :quo cAw.raw [0,0,1]=⟨[[0,1],[0,0]],[1,0],[false,true]⟩:=by
 rw[CQ.ext_iff']
 refine⟨by decide+kernel,by decide+kernel,by decide+kernel⟩
theorem small2 {a b:Rat} (ha:a=0∨a=1) (hb:b=0∨b=1):∀q∈ [a,b],zeq q:=fun q hq=>small3 ha hb (Or.inl rfl) q (by simp at hq ⊢;rcases hq with h | h<;>simp[h])
theorem quo001_tape :zrr ⟨[[0,1],[0,0]],[1,0],[false,true]⟩:=by
 refine⟨by decide,by decide,rfl,rfl,small2 (Or.inr rfl) (Or.inl rfl),by decide+kernel,fun i r hr=> ?_⟩
 have hi:i<2:=(List.getElem?_eq_some_iff.1 hr).1
 rcases(show i=0∨i=1 by omega)with rfl | rfl
 ·obtain rfl: [0,1]=r:=by simpa using hr
  exact⟨rfl,small2 (Or.inl rfl) (Or.inr rfl),fun x hx=>by simpa using hx.symm,fun h=>by simp at h⟩
 ·obtain rfl: [0,0]=r:=by simpa using hr
  exact⟨rfl,small2 (Or.inl rfl) (Or.inl rfl),fun x hx=>by simpa using hx.symm,fun _ q hq=>by simpa using hq⟩
theorem zero_bad :¬zzp ⟨[],[],[]⟩:=fun h=>by have:=h.1;simp at this
end Go.Proofs.YtlpdkbmmbdfoiaaGreat
