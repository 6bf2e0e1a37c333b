/-
  What LumpSame computes. No program is walked here.
-/
import Derived.Test.YtlpdkbmmbdfoiaaGreatLRr8
import Derived.Test.YtlpdkbmmbdfoiaaGreatLHp8
set_option linter.unusedVariables false
namespace Go.Proofs.YtlpdkbmmbdfoiaaGreat
open Go.RowKit
structure SameP (cc:CQ) (q:CQ) (nx:List Int) (L ρ:Rat) (m:Nat) (s1:Bool) (a1 b1:List Nat) (s2:Bool) (a2 b2:List Nat) (e2:Int):Prop where
 hc:∀w va,zlq w va cc→Calls Tryz.prog 43 #[va] w (RLim w s1 a1 b1 0)
 hq:∀w va,zlq w va q→Calls Tryz.prog 43 #[va] w (RLim w s1 a1 b1 0)
 mc:∀w va,zlq w va cc→Calls Tryz.prog 45 #[va] w (RLim w s2 a2 b2 e2)
 mq:∀w va,zlq w va q→Calls Tryz.prog 45 #[va] w (RLim w s2 a2 b2 e2)
 lr:∀w va,zlq w va cc→Calls Tryz.prog 17 #[va] w (RF0 w L)
 rs:L+1=ρ
 fL:fits L
 fρ:fits ρ
 ac:∀w va vx,zlq w va cc→zqa w vx ρ→Calls Tryz.prog 48 #[va,vx, .int .i64 (m:Nat)] w (fun e w'=>∃v,e= .returned (.tuple #[v, .int .i64 0])∧zbb w' v (itV cc.raw ρ m)∧Below w.heap.size w w')
 aq:∀w va vx,zlq w va q→zqa w vx ρ→Calls Tryz.prog 48 #[va,vx, .int .i64 (m:Nat)] w (fun e w'=>∃v,e= .returned (.tuple #[v, .int .i64 0])∧zbb w' v (ztw nx (itV cc.raw ρ m) (cnt nx))∧Below w.heap.size w w')
 sm:∀w va vb,zbb w va (itV cc.raw ρ m)→zgv w vb nx→Calls Tryz.prog 21 #[va,vb] w (fun e w'=>∃v,e= .returned (.tuple #[v, .int .i64 0])∧zbb w' v (ztw nx (itV cc.raw ρ m) (cnt nx))∧Below w.heap.size w w')
section
variable {c:CQ} {of nx:List Int} {share:List Rat}
theorem zuz (c:CQ) (of:List Int) (share:List Rat):(zxw c of share).raw.rates.length=of.length:=by simp[CQ.raw,zxw]
theorem cop_big (ht:zrr c) (h:zgz c.start.length of share):∀i,i<(zxw c of share).raw.rates.length→∀q∈zaq (zxw c of share).raw i,zeu 2304 q∧zhz q:=fun i hi q hq=>by
 rw[zuz]at hi
 rw[zzx hi]at hq
 refine⟨?_,znz ht h hi q hq⟩
 obtain⟨b,hb,rfl⟩:=List.mem_map.1 hq
 have hb2:b<of.length:=by simpa using hb
 obtain⟨x,hx,_,e1⟩:=h.blk hi
 obtain⟨j,hj,_,e2⟩:=h.blk hb2
 rw[e1,e2,h.sh hb2]
 split
 ·exact zeu.zero _
 ·exact(ht.rate (by simpa using hx) (by simpa using hj)).big (h.sm _ (List.getElem_mem _))
theorem cop_st (ht:zrr c) (h:zgz c.start.length of share):∀q∈qs (zxw c of share).raw.start,over 144 2304 q:=fun q hq=>by
 have e:qs (zxw c of share).raw.start=(zxw c of share).start:=zbu _
 rw[e]at hq
 obtain⟨a,ha,rfl⟩:=List.mem_map.1 hq
 have ha2:a<of.length:=by simpa using ha
 obtain⟨i,hi,_,e1⟩:=h.blk ha2
 rw[e1,h.sh ha2]
 have :c.start.getD ((i:Nat):Int).toNat 0=c.start[i]:=by simp[List.getD,List.getElem?_eq_getElem hi]
 rw[this]
 exact((ht.st _ (List.getElem_mem hi)).big (h.sm _ (List.getElem_mem _))).over
theorem zpx {D B:Nat} {l:List Rat} (h:∀q∈l,over D B q) (i:Nat):over D B (l.getD i 0):=by
 by_cases hi:i<l.length
 ·rw[List.getD_eq_getElem?_getD,List.getElem?_eq_getElem hi];exact h _ (List.getElem_mem hi)
 ·rw[List.getD_eq_getElem?_getD,List.getElem?_eq_none (by omega)];exact over.zero _ _
theorem cop_smg (ht:zrr c) (h:zgz c.start.length of share):SmG (zxw c of share).raw 10 10 where
 n:=by rw[zuz];exact h.le
 n10:=by decide
 r:=fun i j hi hj=>(zpx (fun q hq=>(cop_big ht h i hi q hq).1.over) j).mono (by decide)
 s:=fun i hi=>(zpx (cop_st ht h) i).mono (by decide)
 k:=fun i j hi hj=>by
  have k:zhz (rq (zxw c of share).raw i j):=by
   unfold rq
   by_cases h2:j<(zaq (zxw c of share).raw i).length
   ·rw[List.getD_eq_getElem?_getD,List.getElem?_eq_getElem h2];exact(cop_big ht h i hi _ (List.getElem_mem h2)).2
   ·rw[List.getD_eq_getElem?_getD,List.getElem?_eq_none (by omega)];exact zhz.zero
  exact k.wt
 w:=by decide
theorem qf_over {c q:RC} {blk:Nat→Nat} (h:QF c q blk) (hn:c.rates.length≤10) (hr:∀i,i<c.rates.length→∀x∈zaq c i,zeu 2304 x) (hs:∀x∈qs c.start,over 144 2304 x) (hq:zzp q):
 (∀i j,i<q.rates.length→j<q.rates.length→over 144 23040 (rq q i j))∧(∀i,i<q.rates.length→over 144 23040 ((qs q.start).getD i 0))∧(∀i,i<q.rates.length→over 144 23040 (zgg (zaq q i))):=by
 have hb:∀i j,i<c.rates.length→over 144 2304 (rq c i j):=fun i j hi=>zpx (fun x hx=>(hr i hi x hx).over) j
 refine⟨fun i j hi hj=> ?_,fun i hi=> ?_,fun i hi=> ?_⟩
 ·obtain⟨s,hs1,rfl⟩:=h.rep i hi
  by_cases e:blk s=j
  ·rw[←e,h.diag _ hi];exact over.zero _ _
  ·rw[h.rate s j hs1 hj e]
   refine(over.sg (B:=2304) (by decide) fun t ht=> ?_).mono (by omega)
   split
   ·exact hb s t hs1
   ·exact over.zero _ _
 ·rw[h.start i hi]
  refine(over.sg (B:=2304) (by decide) fun t ht=> ?_).mono (show c.rates.length*2304≤23040 by omega)
  split
  ·exact zpx hs t
  ·exact over.zero _ _
 ·obtain⟨s,hs1,rfl⟩:=h.rep i hi
  have k:=h.sum hs1
  have k2:sg c.rates.length (rq c s)=sg c.rates.length (fun t=>if blk t=blk s then 0 else rq c s t)+sg c.rates.length fun t=>if blk t=blk s then rq c s t else 0:=by
   rw[←zvd]
   refine zma fun t ht=> ?_
   by_cases e:blk t=blk s
   ·rw[if_pos e,if_pos e,Rat.zero_add]
   ·rw[if_neg e,if_neg e,Rat.add_zero]
  have k3:sg q.rates.length (rq q (blk s))=sg c.rates.length (fun t=>if blk t=blk s then 0 else rq c s t):=by grind
  rw[out_sg hq hi,k3]
  refine(over.sg (B:=2304) (by decide) fun t ht=> ?_).mono (show c.rates.length*2304≤23040 by omega)
  split
  ·exact over.zero _ _
  ·exact hb s t hs1
theorem same_law (ht:zrr c) (h:zgz c.start.length of share) (hco:zox (zxw c of share).raw nx) (m:Nat) (hm:m≤3):
 zex (zxw c of share).raw nx∧zzp (quo (zxw c of share).raw nx).raw∧nx.length=of.length∧∃L ρ s1 a1 b1 s2 a2 b2 e2,SameP (zxw c of share) (quo (zxw c of share).raw nx) nx L ρ m s1 a1 b1 s2 a2 b2 e2:=by
 have hv:=zcz ht h
 have hck:=hco.check hv
 have hqv:=ztz ht h hck
 have hlen:nx.length=of.length:=by have:=hck.2.2.1;simpa [CQ.raw,zxw]using this
 have hqf:=qf_of hck
 have hn10:(zxw c of share).raw.rates.length≤10:=by rw[zuz];exact h.le
 have hbig:=fun i hi q hq=>(cop_big ht h i hi q hq).1
 obtain⟨o1,o2,o3⟩:=qf_over hqf hn10 hbig (cop_st ht h) hqv
 have hcl:=zlx (zxw c of share).raw nx
 have hc5:cnt nx≤5:=by
  have k:=cnt_le_of hck.1 h.ok hlen (hco.coarser hv (Stab.of_check (cop_check ht h)))
  have:=h.num
  have:=ht.n5
  omega
 have hsc:=cop_smg ht h
 have hsq:SmG (quo (zxw c of share).raw nx).raw 5 23:=⟨by omega,by decide,o1,o2,fun i j hi hj=>(o1 i j hi hj).wt (a:=15) (b:=8) (by decide) (by decide) (by decide),by decide⟩
 obtain⟨H,hH⟩:=hit_ex (zcv hqv)
 obtain⟨T,hT⟩:=time_ex (zcv hqv)
 have hal:=hqf.alls
 obtain⟨A,hA,hAe⟩:zeu 23040 (zyp (zxw c of share).raw (zxw c of share).raw.rates.length):=zyy (P:=zeu 23040) (zeu.zero _) fun i hi=>big_sum hv hn10 hbig hi
 have hρ:zyp (zxw c of share).raw (zxw c of share).raw.rates.length+1=mkRat ((A+144:Nat):Int) 144:=by
  rw[hAe,mk_fq,show(1:Rat)=mkRat ((144:Nat):Int) 144 by decide+kernel,Rat.mkRat_add_mkRat _ _ (by decide) (by decide),←Int.add_mul]
  exact Rat.mkRat_mul_right (by decide)
 have hle:zyp (zxw c of share).raw (zxw c of share).raw.rates.length≤mkRat ((A+144:Nat):Int) 144:=by
  rw[←hρ]
  grind
 have hleq:zyp (quo (zxw c of share).raw nx).raw (quo (zxw c of share).raw nx).raw.rates.length≤mkRat ((A+144:Nat):Int) 144:=by
  refine leave_le (Rat.le_trans (zqx _) hle) fun i hi=> ?_
  obtain⟨s,hs1,rfl⟩:=hqf.rep i hi
  refine Rat.le_trans ?_ (Rat.le_trans (leave_ge hs1) hle)
  rw[out_sg hqv hi,out_sg hv hs1,hqf.sum hs1]
  have k:0≤sg (zxw c of share).raw.rates.length fun t=>if blkN nx t=blkN nx s then rq (zxw c of share).raw s t else 0:=zbp fun t ht=>by
   split
   ·exact hqf.nn s t hs1 ht
   ·exact Rat.le_refl
  grind
 have hac:=afG_of (N:=10) (P:=2304) (a:=12) hv hn10 (by decide) (fun i j hi hj=>zpx (fun q hq=>(hbig i hi q hq).over) j) (fun i hi=>(big_sum hv hn10 hbig hi).over) (fun q hq=>(cop_st ht h q hq).mono (by decide)) (by decide) (by decide) (by decide) (by decide) (by decide) (by omega) (by omega) hle
 have hst:∀q∈qs (quo (zxw c of share).raw nx).raw.start,over 144 (2^15) q:=fun q hq=>by
  obtain⟨i,hi,rfl⟩:=List.mem_iff_getElem.1 hq
  have k:=o2 i (by rw[zgq]at hi;rw[hqv.2.2.2.1];exact hi)
  rw[List.getD_eq_getElem?_getD,List.getElem?_eq_getElem hi,Option.getD_some]at k
  exact k.mono (by decide)
 have haq:=afG_of (N:=5) (P:=23040) (a:=15) hqv (by omega) (by decide) o1 o3 hst (by decide) (by decide) (by decide) (by decide) (by decide) (by omega) (by omega) hleq
 have hlump:=it_lump hck hqv (mkRat ((A+144:Nat):Int) 144) m
 have hfL:=zwq hv _ (Nat.le_refl _)
 refine⟨hck,hqv,hlen,?_⟩
 have hhc:∀w va,zlq w va (zxw c of share)→Calls Tryz.prog 43 #[va] w (RF0 w (stS (quo (zxw c of share).raw nx).raw H)):=fun w va k=>by
  have k2:=hit_cg (H:=fun i=>H (blkN nx i)) k.raw hv hsc (hqf.hit hH)
  rwa[hqf.st H]at k2
 have hmc:∀w va,zlq w va (zxw c of share)→Calls Tryz.prog 45 #[va] w (zjy w (AllS (quo (zxw c of share).raw nx).raw) (stS (quo (zxw c of share).raw nx).raw T)):=fun w va k=>by
  have k2:=mean_cg (T:=fun i=>T (blkN nx i)) k.raw hv hsc (hqf.time hT)
  rw[hqf.st T]at k2
  exact k2.mono fun _ _ j=>j.to hal rfl
 have hsm:∀w va vb,zbb w va (itV (zxw c of share).raw (mkRat ((A+144:Nat):Int) 144) m)→zgv w vb nx→Calls Tryz.prog 21 #[va,vb] w (fun e w'=>∃v,e= .returned (.tuple #[v, .int .i64 0])∧zbb w' v (ztw nx (itV (zxw c of share).raw (mkRat ((A+144:Nat):Int) 144) m) (cnt nx))∧Below w.heap.size w w'):=fun w va vb k1 k2=>by
  refine(lsums_any va vb ((itV (zxw c of share).raw (mkRat ((A+144:Nat):Int) 144) m).map RF.of) nx w k1.raw k2 (by have:=h.le;omega)).mono ?_
  rintro e w' ⟨v,er,rfl,hb,_,h2,_⟩
  obtain⟨rfl,h3⟩:=h2 (fun hbad=>hbad ⟨hck.1,hck.2.1,by rw[List.length_map,znq hv,zuz];exact hlen,fun x hx=>by obtain⟨y,hy,rfl⟩:=List.mem_map.1 hx;exact RF.of_ok (hac.fit hm y hy)⟩) (hac.sum hv hn10 hm nx)
  rw[zvh]at h3
  exact⟨v,rfl,h3,hb⟩
 by_cases hs:AllS (quo (zxw c of share).raw nx).raw
 ·exact⟨_,_,_,_,_,_,_,_,_,{
   hc:=fun w va k=>(hhc w va k).mono fun _ _ j=>j.lim
   hq:=fun w va k=>(hit_cg k.raw hqv hsq hH).mono fun _ _ j=>j.lim
   mc:=fun w va k=>(hmc w va k).mono fun _ _ j=>j.lim.1 hs
   mq:=fun w va k=>(mean_cg k.raw hqv hsq hT).mono fun _ _ j=>j.lim.1 hs
   lr:=fun w va k=>zqq va _ w k.raw hv
   rs:=hρ
   fL:=hfL
   fρ:=hac.fρ
   ac:=fun w va vx k1 k2=>hac.after hv k1.raw k2 hm
   aq:=fun w va vx k1 k2=>by rw[←hlump];exact haq.after hqv k1.raw k2 hm
   sm:=hsm }⟩
 ·exact⟨_,_,_,_,_,_,_,_,_,{
   hc:=fun w va k=>(hhc w va k).mono fun _ _ j=>j.lim
   hq:=fun w va k=>(hit_cg k.raw hqv hsq hH).mono fun _ _ j=>j.lim
   mc:=fun w va k=>(hmc w va k).mono fun _ _ j=>j.lim.2 hs
   mq:=fun w va k=>(mean_cg k.raw hqv hsq hT).mono fun _ _ j=>j.lim.2 hs
   lr:=fun w va k=>zqq va _ w k.raw hv
   rs:=hρ
   fL:=hfL
   fρ:=hac.fρ
   ac:=fun w va vx k1 k2=>hac.after hv k1.raw k2 hm
   aq:=fun w va vx k1 k2=>by rw[←hlump];exact haq.after hqv k1.raw k2 hm
   sm:=hsm }⟩
end
end Go.Proofs.YtlpdkbmmbdfoiaaGreat
