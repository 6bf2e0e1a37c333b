/-
  package lump: split, the walk.
-/
import Derived.Test.YtlpdkbmmbdfoiaaGreatLLu9
set_option linter.unusedVariables false
set_option linter.unusedSimpArgs false
namespace Go.Proofs.YtlpdkbmmbdfoiaaGreat
open Go.RowKit
theorem zce.keptK {w w':World} {e e':TypeId} {B:Nat} {v9 v:Value} {es:List Value} (h:zce w e' B v9 es) (hg:w.grownBy w' v.ownBlock) (hk:∀k,v.ownBlock=some k→∃c fz,w.heap[k]? =some (.cells c e fz)) (hne:e'≠e):zce w' e' B v9 es:=by
 refine World.ownsRow.kept h hg ?_
 cases ho:v9.ownBlock with
 | none=>exact Or.inl rfl
 | some g=>
   refine Or.inr (fun e2=> ?_)
   obtain⟨c,fz,h1⟩:=hk g e2.symm
   obtain⟨c',fz',h2⟩:=Lib.ownsRow_kind h g ho
   rw[h1]at h2
   injection h2 with h2
   injection h2 with _ h2
   exact hne h2.symm
theorem zce.kindAt {w:World} {e:TypeId} {B:Nat} {v:Value} {es:List Value} (h:zce w e B v es) (hl:0<es.length) (j:Nat):∀e' cur fz,w.heap[(ptr v j).block]? =some (.cells cur e' fz)→e'=e:=by
 intro e' cur fz hh
 rw[zsa]at hh
 rcases h.2 with⟨rfl,h0⟩ | ⟨g,cap,cur',rfl,hb,hg,rest⟩
 ·omega
 ·simp only[base]at hh
  rw[hg]at hh
  injection hh with hh
  injection hh with _ hh
  exact hh.symm
theorem zrz (nx:List Int) (k n:Nat) (c:Int) (hl:nx.length=k) (hk:k<n):((nx++List.replicate (n-k) 0).map (Value.int .i64)).set k (.int .i64 c)=((nx++ [c])++List.replicate (n- (k+1)) 0).map (Value.int .i64):=by
 rw[←List.map_set,List.set_append_right _ _ (by omega),hl,Nat.sub_self,show n-k=(n- (k+1))+1 from by omega,List.replicate_succ,List.set_cons_zero,List.append_assoc]
 rfl
def RSplit (w0:World) (bl:List Int) (f:Nat→List Rat) (e:Ending) (w:World):Prop:=
 ∃v nx,e= .returned (.tuple #[v, .int .i64 (cnt nx:Nat)])∧zfx bl f nx∧zce w 3 w0.heap.size v (nx.map (Value.int .i64))∧Below w0.heap.size w0 w
theorem ClsI.lens {bl:List Int} {f:Nat→List Rat} {k:Nat} {nx:List Int} {cl:List (Int×List Rat)} (h:ClsI bl f k nx cl):∀x∈cl,∃i,i<k∧x.2=f i:=fun x hx=>by
 obtain⟨j,hj,rfl⟩:=List.getElem_of_mem hx
 obtain⟨i,h1,_,_,h2⟩:=h.rep j _ (List.getElem?_eq_getElem hj)
 exact⟨i,h1,h2⟩
theorem ClsI.le {bl:List Int} {f:Nat→List Rat} {k:Nat} {nx:List Int} {cl:List (Int×List Rat)} (h:ClsI bl f k nx cl):cl.length≤k:=by
 have:=cnt_le nx nx.length
 rw[List.take_length]at this
 have h1:=h.num
 have h2:=h.len
 omega
set_option maxRecDepth 100000 in
set_option maxHeartbeats 3200000 in
theorem split_any (va vb:Value) (c:RC) (bl:List Int) (n:Nat) (w:World) (ha:zdq w va c) (hb:zgv w vb bl) (hok:okB bl) (hlen:bl.length=c.start.length) (hv:zzp c) (hn:n=cnt bl):
 Calls Tryz.prog 139 #[va,vb, .int .i64 n] w (RSplit w bl (fun i=>ztw bl (zaq c i) (cnt bl))):=by
 subst hn
 have hmf:∀ (fn:Fn) (first cap:Array Value) (w:World),(Instr.makeFunc fn first cap).run Tryz.prog w= .ok (.func fn first cap) w:=fun _ _ _ _=>rfl
 obtain⟨i1,hi1,hz1,hs1,hy1⟩:=info_parts Tryz.infoInt
 have hM1:=make_E (P:=Tryz.prog) 29 3 i1 _ 8 Tryz.underlying29 hi1 hz1 hs1 hy1 (by decide) rfl
 obtain⟨i2,hi2,hz2,hs2,hy2⟩:=info_parts Tryz.infoCls
 have hAC:=append1_cls (P:=Tryz.prog) 163 166 38 i2 Tryz.underlying163 hi2 hz2 hs2 hy2 (by decide)
 clear hi1 hz1 hs1 hy1 hi2 hz2 hs2 hy2
 obtain⟨rv,sv,lv,rfl,hr,hs,hl⟩:=id ha
 obtain⟨ra,rn,rk,rfl,r1,r2,r3⟩:=id hr.sl
 obtain⟨sa,sn,sk,rfl,s1,s2,s3⟩:=id hs.sl
 obtain⟨la,ln,lk,rfl,l1,l2,l3⟩:=id (zhc.sl hl)
 have sb:=zhc.sl hb
 have lb:=hb.len
 have hbl3:bl.length≤128:=by have:=hv;unfold zzp at this;omega
 have hcl:cnt bl≤bl.length:=by have:=cnt_le bl bl.length;rwa[List.take_length]at this
 have hbx:=zca w (.cells #[.slice ra rn rk, .slice sa sn sk, .slice la ln lk] 28)
 have hC:=C3.new w 28 (.slice ra rn rk) (.slice sa sn sk) (.slice la ln lk)
 have hb2:=hb.below hbx
 have HOK:=zH hok
 have HC:=zH hC
 have HV4:Hid (c.rates.length=bl.length):=zH (by rw[hlen];exact hv.2.2.2.1)
 have HVR:Hid (∀i r,c.rates[i]? =some r→zlr r bl.length):=zH (fun i r h=>by rw[hlen];exact(hv.2.2.2.2.2.1 i r h).1)
 have hFit:∀i,i<bl.length→∀x∈ztw bl (zaq c i) (cnt bl),fits x:=fun i hi x hx=>by
  obtain⟨j,hj,rfl⟩:=List.mem_map.1 hx
  have hir:i<c.rates.length:=by rw[HV4.out];exact hi
  have hrp:=HVR.out i _ (List.getElem?_eq_getElem hir)
  have e:zaq c i=qs (c.rates[i]'hir):=by simp[zaq,List.getD,List.getElem?_eq_getElem hir]
  rw[e]
  have h1:=zdz (bl:=bl) (row:=qs (c.rates[i]'hir)) bl.length (j:Int) (fun q hq=>by
   obtain⟨x,hx,rfl⟩:=List.mem_map.1 hq
   exact Rat.not_lt.1 (hrp.1 x hx).2.1) hrp.2.2
  rwa[List.take_length,List.take_of_length_le (by rw[zgq,hrp.2.1];exact Nat.le_refl _)]at h1
 have HFIT:=zH hFit
 have HRN:Hid (rn=bl.length):=zH (by have h1:rn=c.rates.length:=hr.len;rw[h1];exact HV4.out)
 obtain⟨_,c0,c1,c2,_,_,_⟩:=id hC
 clear hFit hC hs ha hok hv hlen hl
 have h0:rn=bl.length:=HRN.out
 subst h0
 go_enter Tryz.func139,Tryz.ntmps139
 go_wp2_with (refine hM1 _ rfl _ _ rfl bl.length rfl rfl (by omega) ?_;intro v9 w9 hown9 hbel9)
 go_loopw [8,19] (fun u8 u19 wr=>∃ (k:Nat) (nx:List Int) (cl:List (Int×List Rat)),k≤bl.length∧u19= .int .i64 k∧zdx wr 38 166 (w.heap.size+1) u8 cl∧ClsI bl (fun i=>ztw bl (zaq c i) (cnt bl)) k nx cl∧
  zce wr 3 (w.heap.size+1) v9 ((nx++List.replicate (bl.length-k) 0).map (Value.int .i64))∧Below (w.heap.size+1) (w.alloc (.cells #[.slice ra bl.length rk, .slice sa sn sk, .slice la ln lk] 28)) wr∧w.heap.size+1≤wr.heap.size) (fun _ u19 _=>bl.length- (intOf u19).toNat)
 case atStart=>
  have hz:(w.alloc (.cells #[.slice ra bl.length rk, .slice sa sn sk, .slice la ln lk] 28)).heap.size=w.heap.size+1:=by simp
  rw[hz]at hown9 hbel9
  refine⟨0,[],[],Nat.zero_le _,rfl,zdx.nil _ _ _ _,ClsI.zero _ _,?_,hbel9,by have:=hbel9.size;omega⟩
  rw[List.nil_append,List.map_replicate]
  exact hown9
 case round=>
  obtain⟨k,nx,cl,hk,rfl,hCl,hI,h9,hbr,hwr⟩:=hrel
  have HI:=zH hI
  have HCl:=zH hCl
  have H9:=zH h9
  have hbr2:Below (w.alloc (.cells #[.slice ra bl.length rk, .slice sa sn sk, .slice la ln lk] 28)).heap.size (w.alloc (.cells #[.slice ra bl.length rk, .slice sa sn sk, .slice la ln lk] 28)) wr:=by
   have hz:(w.alloc (.cells #[.slice ra bl.length rk, .slice sa sn sk, .slice la ln lk] 28)).heap.size=w.heap.size+1:=by simp
   rw[hz];exact hbr
  have HBR:=zH hbr
  clear hI hCl h9 hbr
  by_cases hkl:k<bl.length
  ·have hnl:=HI.out.len
   have hclk:=HI.out.le
   have hbk:=(hb2.below hbr2).at' k hkl
   have HG:Hid (bl[k]? =some (bl[k]'hkl)):=zH (List.getElem?_eq_getElem hkl)
   have hkr:k<c.rates.length:=by rw[HV4.out];exact hkl
   obtain⟨r,hr1,hr2⟩:=((hr.below hbx).below hbr2).at' k hkr
   have HROW:=zH (HVR.out k _ (List.getElem?_eq_getElem hkr))
   have HRQ:Hid (zaq c k=qs (c.rates[k]'hkr)):=zH (by simp[zaq,List.getD,List.getElem?_eq_getElem hkr])
   generalize c.rates[k]'hkr=row at *
   generalize bl[k]'hkl=b at *
   have sra:zgc (.slice ra bl.length rk):=hr.sl
   have hrl:row.length=bl.length:=HROW.out.2.1
   have HROW2:Hid (zlr row row.length):=zH (by rw[hrl];exact HROW.out)
   have HRL:=zH hrl
   have HNL:=zH hnl
   obtain⟨_,c0,c1,c2,_,_,_⟩:=HC.out.belowS hbr2
   have ba:=zca wr (.cells #[.int .i64 b] 3)
   have hbw:=zaa hbr2 ba
   have hr2a:=hr2.below ba
   have hb2a:=hb2.below hbw
   have c0a:=zba ba c0
   have hr1a:=zba ba hr1
   have cb:(wr.alloc (.cells #[.int .i64 b] 3)).cell? ⟨wr.heap.size,0,none⟩=some (.int .i64 b):=by simp
   have i1:(0:Int)≤(k:Int):=by omega
   have i2:(k:Int)<(bl.length:Nat):=by omega
   clear hnl hrl hr1 hr2 c0 c1 c2
   go_upto_if 36 with(first
    |(go_at_call 66;(with_reducible refine(zxx _ _ row bl _ _ hr2a hb2a HRL.out HOK.out rfl (by omega) HROW2.out).mono ?_);rintro e5 w5 ⟨v5,rfl,how5,hel5,hbel5⟩;obtain⟨g5,cs5,rfl,_⟩:=id how5
      have bb:=zca w5 (.cells #[.slice (some ⟨g5,0,none⟩) (cnt bl) (cnt bl)] 25)
      have b56:=zaa hbel5 bb
      have hS5:=(how5.fracs (zsw bl (qs row) (cnt bl)) (fun j hj=>by rw[zsw]at hj;rw[zuw _ _ _ _ hj];exact hel5 j hj)).below bb
      have cb6:=zba b56 cb
      have cv6:(w5.alloc (.cells #[.slice (some ⟨g5,0,none⟩) (cnt bl) (cnt bl)] 25)).cell? ⟨w5.heap.size,0,none⟩=some (.slice (some ⟨g5,0,none⟩) (cnt bl) (cnt bl)):=by simp
      have HCl6:=zH (HCl.out.below (zaa ba b56))
      have hrd:=HCl6.out.reads)
    |(go_at_call 190;(with_reducible refine(index_any _ _ cl b (ztw bl (qs row) (cnt bl)) _ _ _ hrd hS5 (fun x hx=>(by obtain⟨i,_,h⟩:=HI.out.lens x hx;rw[h,zsw,zsw])) (fun x hx=>(by obtain⟨i,hi,h⟩:=HI.out.lens x hx;rw[h];exact HFIT.out i (by omega))) (by rw[←HRQ.out];exact HFIT.out k hkl) cb6 cv6 (by omega)).mono ?_);rintro e7 w7 ⟨⟨z,rfl,hz⟩,hbel7⟩))
   have hb07:=zaa (zaa ba b56) hbel7
   have HCl7:=zH (HCl6.out.below hbel7)
   have H97:=zH (H9.out.below hb07)
   have HBR7:=zH (HBR.out.trans (hb07.mono hwr))
   have hwr7:w.heap.size+1≤w7.heap.size:=Nat.le_trans hwr hb07.size
   have hfr7:=((how5.below bb).below hbel7).mono (show w.heap.size+1≤_ from Nat.le_trans hwr ba.size)
   have hS7:=hS5.below hbel7
   have cb7:=zba hbel7 cb6
   have cv7:=zba hbel7 cv6
   have hl9:((nx++List.replicate (bl.length-k) 0).map (Value.int .i64)).length=bl.length:=by rw[List.length_map,List.length_append,List.length_replicate,HNL.out];omega
   have HL9:=zH hl9
   have hk9:k<((nx++List.replicate (bl.length-k) 0).map (Value.int .i64)).length:=by rw[hl9];exact hkl
   have s9:=H97.out.sl
   have l9:slen v9=bl.length:=by rw[H97.out.len,hl9]
   have hu8:=HCl7.out.reads
   have su8:=hu8.sl
   have lu8:=hu8.len
   clear hl9 hrd hu8 cb cb6 cv6 hS5 hr2a hb2a c0a hr1a hel5 ba b56 bb hbw
   rcases hz with⟨rfl,hz⟩ | ⟨j,hj,rfl,hz⟩
   ·have HZ:=zH hz
    clear hz
    have hcl7:=HCl7.out
    go_wp2_with (first
     |(at_builtin;refine hAC _ rfl _ _ rfl (w.heap.size+1) _ u8 cl rfl hcl7 b (ztw bl (qs row) (cnt bl)) g5 (cnt bl) hfr7 hS7 rfl (by omega) hwr7 ?_;intro v8 w8 ho8 hg8 hB8 hk8 sv8
       have h98:=H97.out.keptK hg8 hk8 (by decide)
       have H98:=zH h98
       have hc9:=h98.cell k hk9
       have hf9:=h98.frozen k hk9
       clear h98))
    have hbg:Below (w.heap.size+1) w7 w8:=zna hg8 hwr7 hB8
    have hset:=H98.out.set k hk9 (.int .i64 (cl.length:Nat))
    rw[zrz nx k bl.length _ HNL.out hkl]at hset
    have HSET:=zH hset
    have hkd:=H98.out.kindAt (by rw[HL9.out];omega) k
    have hov:zdx (w8.setCell (ptr v9 k) (.int .i64 (cl.length:Nat))) 38 166 (w.heap.size+1) v8 (cl++ [(b,ztw bl (qs row) (cnt bl))]):=
     ho8.over (fun e cur fz hh=>by have:=hkd e cur fz hh;subst this;decide) hc9 (fun z h=>by have h6:=List.getElem_mem hk9;rw[h]at h6;obtain⟨y,_,h7⟩:=List.mem_map.1 h6;cases h7) _
    have HOV:=zH hov
    have HIN:Hid (ClsI bl (fun i=>ztw bl (zaq c i) (cnt bl)) (k+1) (nx++ [((cl.length:Nat):Int)]) (cl++ [(b,ztw bl (qs row) (cnt bl))])):=zH (by
     have:=HI.out.fresh HG.out (by show ∀x∈cl,¬hits b (ztw bl (zaq c k) (cnt bl)) x;rw[HRQ.out];exact HZ.out)
     simp only[HRQ.out]at this
     exact this)
    clear hset hov hkd
    go_roundw
    case rel=>exact⟨k+1,_,_,by omega,by go_num,HOV.out,HIN.out,HSET.out.1,(HBR7.out.trans hbg).trans HSET.out.2,by have h1:=hbg.size;have h2:=HSET.out.2.size;omega⟩
    case measure=>simp[intOf];omega
   ·have HZ:=zH hz
    clear hz
    have hd:decide (((j:Nat):Int)<0)=false:=decide_eq_false (by omega)
    have hc9:=H97.out.cell k hk9
    have hf9:=H97.out.frozen k hk9
    go_wp2_with fail
    have hset:=H97.out.set k hk9 (.int .i64 (j:Nat))
    rw[zrz nx k bl.length _ HNL.out hkl]at hset
    have HSET:=zH hset
    have hkd:=H97.out.kindAt (by rw[HL9.out];omega) k
    have hov:zdx (w7.setCell (ptr v9 k) (.int .i64 (j:Nat))) 38 166 (w.heap.size+1) u8 cl:=
     HCl7.out.over (fun e cur fz hh=>by have:=hkd e cur fz hh;subst this;decide) hc9 (fun z h=>by have h6:=List.getElem_mem hk9;rw[h]at h6;obtain⟨y,_,h7⟩:=List.mem_map.1 h6;cases h7) _
    have HOV:=zH hov
    have HIN:Hid (ClsI bl (fun i=>ztw bl (zaq c i) (cnt bl)) (k+1) (nx++ [((j:Nat):Int)]) cl):=zH (HI.out.old HG.out hj (by show hits b (ztw bl (zaq c k) (cnt bl)) _;rw[HRQ.out];exact HZ.out))
    clear hset hov hkd
    go_roundw
    case rel=>exact⟨k+1,_,_,by omega,by go_num,HOV.out,HIN.out,HSET.out.1,HBR7.out.trans HSET.out.2,by have h2:=HSET.out.2.size;omega⟩
    case measure=>simp[intOf];omega
  ·obtain rfl:k=bl.length:=by omega
   have hu8:=HCl.out.reads
   have su8:=hu8.sl
   have lu8:=hu8.len
   have HNU:=zH HI.out.num
   have HD:=zH (HI.out.done (n:=cnt bl) (fun i=>zsw _ _ _))
   have h9':=H9.out
   rw[Nat.sub_self,List.replicate_zero,List.append_nil]at h9'
   have H99:=zH h9'
   clear hu8 h9'
   go_wp2_with fail
   go_ret2
   exact⟨v9,nx,by rw[HNU.out];rfl,HD.out,H99.out.mono (Nat.le_succ _),(hbx.trans (HBR.out.mono (Nat.le_succ _)))⟩
end Go.Proofs.YtlpdkbmmbdfoiaaGreat
