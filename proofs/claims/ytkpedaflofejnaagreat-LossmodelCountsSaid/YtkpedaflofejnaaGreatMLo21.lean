/- Lemmas. -/
import Derived.Test.YtkpedaflofejnaaGreatMLo10
import Derived.Test.YtkpedaflofejnaaGreatMLo20
set_option linter.unusedVariables false
set_option linter.unusedSimpArgs false
namespace Go.Proofs.YtkpedaflofejnaaGreat
def zec (P:Nat) (l:List Nat):List Nat:=l.foldl zbf (List.replicate (P+1) 0)
theorem zzo (P:Nat) (l:List Nat) (x:Nat):zec P (l++ [x])=zbf (zec P l) x:=by
 unfold zec;rw[List.foldl_append];rfl
theorem tally_nil (P:Nat):zec P []=List.replicate (P+1) 0:=rfl
theorem zuc (P:Nat) (l:List Nat):(zec P l).length=P+1:=by
 unfold zec
 have key:∀ (l u:List Nat),(l.foldl zbf u).length=u.length:=λ l=>by
  induction l with
  | nil=>intro u;rfl
  | cons x l ih=>intro u;rw[List.foldl_cons,ih];simp[zbf]
 rw[key];simp
theorem bump_get {u:List Nat} {x j:Nat} (hx:x<u.length):(zbf u x).getD j 0=u.getD j 0+if j=x then 1 else 0:=by
 unfold zbf;rw[zGD,List.getElem?_set];by_cases e:x=j
 ·subst e;rw[zIP rfl,zIP hx,zIP rfl];rfl
 ·rw[zIN e,zIN (λ h=>e h.symm),<-zGD];rfl
theorem fold_get :∀ (l u:List Nat) (j:Nat),(∀x∈l,x<u.length)->(l.foldl zbf u).getD j 0=u.getD j 0+l.count j
 | [],u,j,_=>by simp
 | x::l,u,j,h=>by
   rw[List.foldl_cons,fold_get l (zbf u x) j (λ y hy=>by rw[show(zbf u x).length=u.length by simp[zbf]];exact h y (by simp[hy])),bump_get (h x (by simp)),List.count_cons];by_cases e:j=x
   ·subst e;simp;omega
   ·(have :(x==j)=false:=by simpa using λ h=>e h.symm);rw[zIN e,this];simp
theorem znh {P:Nat} {l:List Nat} (h:∀x∈l,x<=P) (j:Nat):(zec P l).getD j 0=l.count j:=by
 unfold zec;rw[fold_get l _ j (λ x hx=>by rw[zRP];have:=h x hx;omega)]
 have :(List.replicate (P+1) 0).getD j 0=0:=by
  rw[zGD,List.getElem?_replicate];split<;>rfl
 rw[this,Nat.zero_add]
theorem sum_bump {u:List Nat}:∀ {x:Nat},x<u.length->(zbf u x).sum=u.sum+1:=by
 induction u with
 | nil=>intro x h;simp at h
 | cons y u ih=>
   intro x h
   cases x with
   | zero=>show((y+1)::u).sum=_;rw[List.sum_cons,List.sum_cons];omega
   | succ x=>
     have h2:=ih (x:=x) (by simpa using h);(show(y::(zbf u x)).sum=_);rw[List.sum_cons,List.sum_cons,h2];omega
theorem tally_sum {P:Nat} {l:List Nat} (h:∀x∈l,x<=P):(zec P l).sum=l.length:=by
 unfold zec
 have key:∀ (l u:List Nat),(∀x∈l,x<u.length)->(l.foldl zbf u).sum=u.sum+l.length:=λ l=>by
  induction l with
  | nil=>intro u _;simp
  | cons x l ih=>
    intro u hu;rw[List.foldl_cons,ih _ (λ y hy=>by rw[show(zbf u x).length=u.length by simp[zbf]];exact hu y (by simp[hy])),sum_bump (hu x (by simp)),List.length_cons];omega
 rw[key l _ (λ x hx=>by rw[zRP];have:=h x hx;omega)];have :(List.replicate (P+1) 0).sum=0:=by simp
 omega
theorem zke (l:List Nat):ztf l=l.count 0:=by
 unfold ztf;rw[List.count_eq_length_filter]
theorem tally_mem {P n m:Nat} (hP:1<=P) (hm:m<=n) {v:List Nat} (h:v∈zbb (List.replicate n P) m):zec P v∈zue P n m:=by
 obtain⟨h1,h2,h3⟩:=(zmd _ _ _).1 h;rw[zRP]at h1
 have hle:∀x∈v,x<=P:=λ x hx=>by
  obtain⟨i,hi,rfl⟩:=List.getElem_of_mem hx;have h4:=h2 i hi;rw[zGD,List.getElem?_replicate,zIP zO]at h4;exact h4
 refine(zik hP hm).2 ⟨zuc P v,by rw[tally_sum hle,h1],?_⟩;have e:(zec P v).headD 0=(zec P v).getD 0 0:=by cases zec P v<;>rfl
 rw[e,znh hle,<-zke];exact h3
def ztk (c:List Nat):Nat->List Nat
 | 0=> []
 | p+1=>ztk c p++List.replicate (c.getD p 0) p
theorem untal_mem {c:List Nat}:∀ {p x:Nat},x∈ztk c p->x<p
 | 0,x,h=>by simp[ztk]at h
 | p+1,x,h=>by
   unfold ztk at h;rcases List.mem_append.1 h with h1 | h1
   ·have:=untal_mem h1;omega
   ·have:=List.eq_of_mem_replicate h1;omega
theorem zxi {c:List Nat}:∀ (p j:Nat),(ztk c p).count j=if j<p then c.getD j 0 else 0
 | 0,j=>by simp[ztk]
 | p+1,j=>by
   unfold ztk;rw[List.count_append,zxi p j,List.count_replicate];by_cases e:p=j
   ·subst e;simp
   ·(have :(p==j)=false:=by simpa using e);rw[this];by_cases h:j<p
    ·simp[h,show j<p+1 by omega]
    ·simp[h,show ¬j<p+1 by omega]
theorem zpl {c:List Nat}:∀p,(ztk c p).length=(c.take p).sum
 | 0=>by simp[ztk]
 | p+1=>by
   unfold ztk;rw[zLA,zpl p,zRP];rcases zOG p c.length with h | h
   ·rw[List.take_succ_eq_append_getElem h,List.sum_append,zGD,zGE h];simp
   ·rw[zTL h,zTL zO,zGD,List.getElem?_eq_none h];simp
theorem tally_hit {P n m:Nat} (hP:1<=P) (hm:m<=n) {c:List Nat} (h:c∈zue P n m):∃v∈zbb (List.replicate n P) m,zec P v=c:=by
 obtain⟨h1,h2,h3⟩:=(zik hP hm).1 h;have hle:∀x∈ztk c (P+1),x<=P:=λ x hx=>by have:=untal_mem hx;omega
 have hl:(ztk c (P+1)).length=n:=by rw[zpl,zTL zO,h2]
 refine⟨ztk c (P+1),(zmd _ _ _).2 ⟨by rw[hl,zRP],λ i hi=> ?_,?_⟩,?_⟩
 ·rw[zGD,List.getElem?_replicate,zIP zO];exact hle _ (zGM hi)
 ·rw[zke,zxi,zIP zO];have e:c.headD 0=c.getD 0 0:=by cases c<;>rfl
  rw[<-e];exact h3
 ·refine List.ext_getElem (by rw[zuc,h1]) λ j a b=> ?_
  have h4:=znh hle j;rw[zxi,zIP zO,zGD,zGE a,zGD,zGE b]at h4;exact h4
theorem nodup_le {α:Type} [DecidableEq α]:∀ {l k:List α},l.Nodup->(∀x∈l,x∈k)->l.length<=k.length
 | [],k,_,_=>zZL _
 | x::l,k,hn,h=>by
   have hx:=List.nodup_cons.1 hn;(have h1:=nodup_le (k:=k.erase x) hx.2 λ y hy=>(List.mem_erase_of_ne (show y≠x from λ e=>hx.1 (by rw[<-e];exact hy))).2 (h y (by simp[hy])));have h2:=List.length_erase_of_mem (h x (by simp));have h3:=List.length_pos_of_mem (h x (by simp));rw[List.length_cons];omega
theorem cnt_le_full {P n m:Nat} (hP:1<=P) (hm:m<=n):(zue P n m).length<=(zbb (List.replicate n P) m).length:=by
 have h:=nodup_le (k:=(zbb (List.replicate n P) m).map (zec P)) (zkp P n m) λ c hc=>by
  obtain⟨v,hv,rfl⟩:=tally_hit hP hm hc;exact List.mem_map.2 ⟨v,hv,rfl⟩
 rwa[zMP]at h
def zgr (k m:Int):Prop:=1<=k/\k<=6/\0<=m/\m<=4/\k+m<=8
instance (k m:Int):Decidable (zgr k m):=inferInstanceAs (Decidable (_/\_/\_/\_/\_))
def zao (ph k m st:Int):Int×Int:=
 if ph<1\/4<ph\/¬zgr k m then(0,1)
 else if 128<=(zbb (List.replicate (k+m).toNat ph.toNat) m.toNat).length then(0,2)
 else if st<0\/((zbb (List.replicate (k+m).toNat ph.toNat) m.toNat).length:Int)<st then(0,5)
 else if st=((zbb (List.replicate (k+m).toNat ph.toNat) m.toNat).length:Int)then(((zue ph.toNat (k+m).toNat m.toNat).length:Int),0)
 else((((zue ph.toNat (k+m).toNat m.toNat).idxOf (zec ph.toNat ((zbb (List.replicate (k+m).toNat ph.toNat) m.toNat).getD st.toNat [])):Nat):Int),0)
end Go.Proofs.YtkpedaflofejnaaGreat
namespace Go.Proofs.YtkpedaflofejnaaGreat
set_option maxHeartbeats 12800000
open Go.RowKit Go.Maps
theorem step_look1 {P:Program} (t k e:TypeId) (q:IntKind) (Kd:Keyed P k) (ht:P.underlying t=some (.map k e)) (he:P.underlying e=some (.int q)) {ops:Array Oper} {o:Oper} {a:Act} {w:World} {K:Act->World->Prop} {Q:Exit->Act->World->Prop} {E:Prop} (hgd:o.guard=none) (m x:Operand)
 (ho:o.op= .lookup t m x false) (hz:(zeroValue e).run P w= .ok (.int q 0) w) (b n:Nat) (D:DataW Unit) (hm:a.eval m= .map (some b)) (hown:w.ownsMap P k (plainElem P e) b n D) (key:Value) (kl:Lit) (hx:a.eval x=key) (hkey:keyOf P k key=some kl)
 (h:∀c:Int,D.atKey kl (.lit (.int q 0))= .lit (.int q c)->K (a.put o.dst (.int q c)) w):
 if Region.wanted o (yielded ops a.tmps)=true then Oper.wp P o a w K Q else E:=by
 rw[zIP (by simp[Region.wanted,hgd])];obtain⟨c,hrun,hc,_⟩:=hown.lookup_int Kd ht he hz hkey;unfold Oper.wp;simp[execOp,ho,hm,hx,hrun,Result.andThen];exact h c hc
def zro (w0:World) (r:Int×Int) (e:Ending) (w:World):Prop:=e= .returned (.tuple #[.int .i64 r.1, .int .i64 r.2])/\Below w0.heap.size w0 w
theorem zzn {ph k m st:Int} (h:ph<1\/4<ph\/¬zgr k m):zao ph k m st=(0,1):=by unfold zao;rw[zIP h]
theorem lcode_no (k m:Int) (w:World) (h:¬zgr k m):Calls Tryz.prog 37 #[.int .i64 k, .int .i64 m] w (λ e w'=>e= .returned (.bool false)/\Below w.heap.size w w'):=by
 refine(zdo k m w).mono ?_;rintro e w' ⟨rfl,hb⟩;exact⟨by rw[zDF (show ¬ (1<=k/\k<=6/\0<=m/\m<=4/\k+m<=8)from h)],hb⟩
theorem mergA_nat (P k m:Nat) (st:Int) (hP:1<=P) (hP4:P<=4) (h1:1<=k) (h2:k<=6) (h3:m<=4) (h4:k+m<=8):zao (P:Nat) (k:Nat) (m:Nat) st=
 if 128<=(zbb (List.replicate (k+m) P) m).length then(0,2)
 else if st<0\/((zbb (List.replicate (k+m) P) m).length:Int)<st then(0,5)
 else if st=((zbb (List.replicate (k+m) P) m).length:Int)then(((zue P (k+m) m).length:Int),0)
 else((((zue P (k+m) m).idxOf (zec P ((zbb (List.replicate (k+m) P) m).getD st.toNat [])):Nat):Int),0):=by
 unfold zao zgr;rw[zIN zO];have e1:((k:Int)+(m:Int)).toNat=k+m:=zO;rw[e1,Int.toNat_natCast,Int.toNat_natCast]
def filN (P n a:Nat):List Nat:=List.replicate a P++List.replicate (n-a) 0
theorem filN_length (P n a:Nat) (h:a<=n):(filN P n a).length=n:=by unfold filN;simp;omega
theorem filN_zero (P n:Nat):filN P n 0=List.replicate n 0:=by unfold filN;simp
theorem filN_all (P n:Nat):filN P n n=List.replicate n P:=by unfold filN;simp
theorem filN_set (P n a:Nat) (h:a<n):(filN P n a).set a P=filN P n (a+1):=by
 unfold filN;have e:n-a=(n- (a+1))+1:=zO;rw[e,List.replicate_succ,List.set_append_right _ _ (by simp)];rw[show a- (List.replicate a P).length=0 by simp,List.set_cons_zero,List.replicate_succ',List.append_assoc];rfl
theorem full_mem {P n m:Nat} (hm:m<=n) {v:List Nat} (h:v∈zbb (List.replicate n P) m):v.length=n/\∀x∈v,x<=P:=by
 obtain⟨h1,h2,h3⟩:=(zmd _ _ _).1 h;rw[zRP]at h1;refine⟨h1,λ x hx=> ?_⟩;obtain⟨i,hi,rfl⟩:=List.getElem_of_mem hx;have h4:=h2 i hi;rw[zGD,List.getElem?_replicate,zIP zO]at h4;exact h4
set_option maxRecDepth 100000 in
theorem merge_bad (ph k m st:Int) (w:World) (h:ph<1\/4<ph\/¬zgr k m):Calls Tryz.prog 16 #[.int .i64 ph, .int .i64 k, .int .i64 m, .int .i64 st] w (zro w (zao ph k m st)):=by
 rw[zzn h];by_cases h1:ph<1
 ·have e1:decide (ph<1)=true:=zDT h1;clear h1 h;go_enter Tryz.func16,Tryz.ntmps16;go_wp2_with fail;go_ret2;exact⟨rfl,zBR _ _⟩
 ·have e1:decide (ph<1)=false:=zDF h1;by_cases h2:4<ph
  ·have e2:decide (4<ph)=true:=zDT h2;clear h1 h2 h;go_enter Tryz.func16,Tryz.ntmps16;go_wp2_with fail;go_ret2;exact⟨rfl,zBR _ _⟩
  ·have e2:decide (4<ph)=false:=zDF h2;have HC:zI (¬zgr k m):=zH ((h.resolve_left h1).resolve_left h2);clear h1 h2 h;go_enter Tryz.func16,Tryz.ntmps16
   go_wp2_with (first
    |(go_at_call 37;(with_reducible refine(lcode_no k m _ HC.o).mono ?_);rintro e3 w3 ⟨rfl,hb3⟩;have HB:=zH hb3;clear hb3))
   go_ret2;exact⟨rfl,HB.o⟩
set_option maxRecDepth 100000 in
theorem merge_main (P k m:Nat) (st:Int) (w:World) (hP1:1<=P) (hP4:P<=4) (k1:1<=k) (k6:k<=6) (m4:m<=4) (km:k+m<=8):Calls Tryz.prog 16 #[.int .i64 (P:Nat), .int .i64 (k:Nat), .int .i64 (m:Nat), .int .i64 st] w (zro w (zao (P:Nat) (k:Nat) (m:Nat) st)):=by
 rw[mergA_nat P k m st hP1 hP4 k1 k6 m4 km];obtain⟨n,hn⟩:∃n,k+m=n:=⟨_,rfl⟩;rw[hn];have n1:1<=n:=zO;have n8:n<=8:=zO;have mn:m<=n:=zO;have HFM:zI (∀v∈zbb (List.replicate n P) m,v.length=n/\∀x∈v,x<=P):=zH (λ v hv=>full_mem mn hv);have HTM:zI (∀v∈zbb (List.replicate n P) m,zec P v∈zue P n m):=zH (λ v hv=>tally_mem hP1 mn hv);have HLE:zI ((zue P n m).length<=(zbb (List.replicate n P) m).length):=zH (cnt_le_full hP1 mn);obtain⟨F,hF⟩:∃F,zbb (List.replicate n P) m=F:=⟨_,rfl⟩;obtain⟨C,hC⟩:∃C,zue P n m=C:=⟨_,rfl⟩;rw[hF,hC]at HTM HLE;rw[hF]at HFM;rw[hF,hC];generalize hRR:(if 128<=F.length then((0,2):Int×Int)else if st<0\/(F.length:Int)<st then(0,5)else if st=(F.length:Int)then((C.length:Int),0)else(((C.idxOf (zec P (F.getD st.toNat [])):Nat):Int),0))=RR;have HRR:=zH hRR;clear hRR;have HF:=zH hF;have HC:=zH hC;have HN:=zH hn;obtain⟨i3,hi3,hz3,hs3,hy3⟩:=info_parts Tryz.infoInt;have hM:=zbo (P:=Tryz.prog) 31 3 i3 (.int .i64 0) Tryz.underlying31 hi3 hz3 hs3 (by rw[hy3];decide) rfl;clear hF hC hi3 hz3 hs3 hy3;have e1:decide ((P:Int)<1)=false:=zDF zO;have e2:decide ((4:Int)<(P:Nat))=false:=zDF zO;go_enter Tryz.func16,Tryz.ntmps16
 go_upto_region 4 with(first
  |(go_at_call 37;(with_reducible refine(zom k m _ k1 k6 m4 km).mono ?_);rintro e3 w3 ⟨rfl,hb3⟩;have HB3:=zH hb3;clear hb3)
  |(refine hM _ rfl _ _ rfl w3.heap.size _ n ?_ rfl rfl zO (zLR _) ?_
    ·omega
    intro v9 w9 hv9 hb9 hg9;have HO9:zI (zib w9 3 w3.heap.size v9 ((filN P n 0).map zod)):=zH (by rw[filN_zero,List.map_replicate];exact hv9);have HB9:=zH hb9;have HG9:=zH hg9;have s9:=hv9.sl;(have l9:slen v9=n:=by rw[hv9.len,zRP]);clear hv9 hb9 hg9))
 clear e1 e2;have hnI:((k:Nat):Int)+(m:Nat)=(n:Nat):=by rw[<-HN.o];omega
 rw[hnI];go_wp2_with fail;clear hnI;go_loopg [37] (n) (λ g u37 wr=>∃a:Nat,a<=n/\g=n-a/\u37= .int .i64 a/\zib wr 3 w3.heap.size v9 ((filN P n a).map zod)/\Below w3.heap.size w3 wr);case atStart=>exact⟨0,zZL _,rfl,rfl,HO9.o,HB9.o⟩
 case round=>
  obtain⟨a,han,hg,rfl,ho,hbr⟩:=hrel;obtain⟨w6,hw6⟩:∃w6,w6=wr:=⟨_,rfl⟩;subst hw6;have HG:=zH hg;have HO:=zH ho;have HBR:=zH hbr;clear hg ho hbr HO9 HB9;by_cases hal:a<n
  ·(have hla:a<((filN P n a).map zod).length:=by rw[zMP,filN_length P n a han];exact hal);have hset:=HO.o.set a hla (zod P);rw[<-List.map_set,filN_set P n a hal]at hset;have HSET:=zH hset;obtain⟨z0,cz⟩:∃z,w6.cell? (ptr v9 a)=some z:=⟨_,HO.o.cell a hla⟩;have fz:=HO.o.frozen a hla;have i1:(0:Int)<=(a:Int):=zO;have i2:(a:Int)<(n:Nat):=zO;clear hset hla;go_wp2_with fail;go_roundg (n- (a+1));(case measure=>(have:=HG.o;omega));case rel=>exact⟨a+1,zO,rfl,by go_num,HSET.o.1,HBR.o.trans HSET.o.2⟩
  ·obtain rfl:a=n:=zO;clear hal han
   have HNV:zI (zjb w6 v9 (List.replicate a P)):=zH (by
    have h:=HO.o.natsV;rw[filN_all]at h;exact h)
   have HBX:=zH (zaa HB3.o HBR.o);clear HG HO HBR
   go_upto_region 10 with(first
    |(go_at_call 41;(with_reducible refine(full_any v9 (List.replicate a P) m _ HNV.o (by rw[zRP];omega) (by rw[zRP];omega) (λ x hx=>by rw[List.eq_of_mem_replicate hx];omega) zO).mono ?_);rintro e7 w7 ⟨vb,rfl,hb7,hv7⟩;rw[HF.o]at hv7 |-;have HV7:=zH hv7;have HB7:=zH (zaa HBX.o hb7);clear hb7 hv7))
   clear s9 l9;by_cases hFL:128<=F.length
   ·have e3:decide (F.length<128)=false:=zDF zO;have h:=HRR.o;rw[zIP hFL]at h;subst h;clear hFL;go_wp2_with fail;go_ret2;exact⟨rfl,HB7.o⟩
   have e3:decide (F.length<128)=true:=zDT zO;obtain⟨B0,mb,lv,rs,hV,hvb⟩:=HV7.o zO;have HV:=zH hV;have c0:=hV.c0;have lsl:=hV.sl;have lln:slen lv=F.length:=hV.len;have HFL:=zH hFL;clear hV hvb HV7 hFL;by_cases hs1:st<0
   ·have e4:decide (st<0)=true:=zDT hs1;have h:=HRR.o;rw[zIN HFL.o,zIP (Or.inl hs1)]at h;subst h;clear hs1;go_wp2_with fail;go_ret2;exact⟨rfl,HB7.o⟩
   have e4:decide (st<0)=false:=zDF hs1;by_cases hs2:(F.length:Int)<st
   ·have e5:decide ((F.length:Int)<st)=true:=zDT hs2;have h:=HRR.o;rw[zIN HFL.o,zIP (Or.inr hs2)]at h;subst h;clear hs1 hs2;go_wp2_with fail;go_ret2;exact⟨rfl,HB7.o⟩
   obtain⟨s,rfl⟩:∃s:Nat,st=s:=⟨st.toNat,zO⟩;have hsF:s<=F.length:=zO;have e5:decide (F.length<s)=false:=zDF zO;have HR2:=HRR.o;rw[zIN HFL.o,zIN zO]at HR2;replace HRR:=zH HR2;clear hs1 hs2 HR2;have hkmI:((k:Nat):Int)+(m:Nat)=(a:Nat):=by rw[<-HN.o];omega
   go_upto_region 15 with(first
    |(go_at_call 67;(with_reducible refine(counts_i P a m _ _ _ _ rfl zO rfl hP1 hP4 n8 mn).mono ?_);rintro e8 w8 ⟨vc,rfl,hb8,hv8⟩;rw[HC.o]at hv8 |-;have HVC:=zH hv8;have HB8:=zH (zaa HB7.o hb8);have HV8:=zH (HV.o.bw hb8);clear hb8 hv8 c0))
   have c0:=HV8.o.c0;obtain⟨B1,mb1,lv1,rs1,hVC,hvb1⟩:=HVC.o (by have:=HLE.o;have:=HFL.o;omega);have HC1:=zH hVC;have d0:=hVC.c0;have lsl1:=hVC.sl;have lln1:slen lv1=C.length:=hVC.len;clear hVC hvb1 HVC;by_cases hsl:s=F.length
   ·(have e6:(((s:Nat):Int)==((F.length:Nat):Int))=true:=by simp[hsl]);have h:=HRR.o;rw[zIP zO]at h;subst h;clear hsl;go_wp2_with fail;go_ret2;exact⟨rfl,HB8.o⟩
   (have e6:(((s:Nat):Int)==((F.length:Nat):Int))=false:=by simp;omega);have hsl2:s<F.length:=zO;have h:=HRR.o;rw[zIN zO]at h;rw[Int.toNat_natCast,zGD,zGE hsl2]at h;replace HRR:=zH (show(((C.idxOf (zec P (F[s]'hsl2)):Nat):Int),(0:Int))=RR from h);clear h hsl;obtain⟨r,hr0,hrv⟩:=HV8.o.row s hsl2;have HFS:=zH (HFM.o _ (zGM hsl2));have HTC:=zH (HTM.o _ (zGM hsl2));generalize F[s]'hsl2=v at *
   have HR:=zH hrv;have rsl:=hrv.sl;(have rln:slen r=a:=by rw[hrv.len];exact HFS.o.1);clear hrv
   go_upto_region 18 with(refine hM _ rfl _ _ rfl w8.heap.size _ (P+1) ?_ rfl rfl zO (zLR _) ?_
                          ·omega
                          intro vT wT hvT hbT hgT;have HOT:zI (zib wT 3 w8.heap.size vT ((zec P (v.take 0)).map zod)):=zH (by rw[List.take_zero,tally_nil,List.map_replicate];exact hvT);have HBT:=zH hbT;have sT:=hvT.sl;(have lT:slen vT=P+1:=by rw[hvT.len,zRP]);clear hvT hbT hgT)
   clear hM;have c0T:=zca HBT.o c0;have crT:=zca HBT.o hr0;have i1:(0:Int)<=(s:Int):=zO;have i2:(s:Int)<(F.length:Nat):=zO;clear hr0 c0 d0;go_wp2_with fail;clear c0T crT i1 i2;go_loopg [98] (a) (λ g u98 wr=>∃j:Nat,j<=a/\g=a-j/\u98= .int .i64 j/\zib wr 3 w8.heap.size vT ((zec P (v.take j)).map zod)/\Below w8.heap.size w8 wr);case atStart=>exact⟨0,zZL _,rfl,rfl,HOT.o,HBT.o⟩
   case round=>
    obtain⟨j,hja,hg,rfl,ho,hbr⟩:=hrel;obtain⟨wx,hwx⟩:∃w6,w6=wr:=⟨_,rfl⟩;subst hwx;have HG:=zH hg;have HO:=zH ho;have HBR:=zH hbr;clear hg ho hbr HOT HBT;by_cases hjl:j<a
    ·(have hjv:j<v.length:=by rw[HFS.o.1];exact hjl);have cj:=(HR.o.bw HBR.o).at' j hjv;have hx:=HFS.o.2 _ (zGM hjv)
     have HTS:zI (zbf (zec P (v.take j)) (v[j]'hjv)=zec P (v.take (j+1))):=zH (by
      rw[List.take_succ_eq_append_getElem hjv,zzo])
     generalize v[j]'hjv=x at *
     have hb:=zok HO.o (i:=x) (by rw[zuc];omega);obtain⟨cx,fx,ho2,hb2⟩:=hb;rw[HTS.o]at ho2;have HO2:=zH ho2;have HB2:=zH hb2
     have hty:(zec P (v.take j)).getD x 0<=100:=by
      rw[znh (λ z hz=>HFS.o.2 z (List.mem_of_mem_take hz))];have h1:=List.count_le_length (a:=x) (l:=v.take j);rw[zTK]at h1;omega
     generalize (zec P (v.take j)).getD x 0=y at *
     have i3:(0:Int)<=(j:Int):=zO;have i4:(j:Int)<(a:Nat):=zO;have i5:(0:Int)<=(x:Int):=zO;have i6:(x:Int)<((P+1:Nat):Int):=zO;clear ho2 hb2 hjv;go_wp2_with fail;go_roundg (a- (j+1));(case measure=>(have:=HG.o;omega));case rel=>exact⟨j+1,zO,rfl,by go_num,HO2.o,HBR.o.trans HB2.o⟩
    ·obtain rfl:j=a:=zO;clear hjl hja;have hvl:=HFS.o.1
     have HNT:zI (zjb wx vT (zec P v)):=zH (by
      have h:=HO.o.natsV;rw[zTL zO]at h;exact h)
     have HSM:zI (zhb (zec P v)):=zH (λ x hx=>by
      obtain⟨i,hi,rfl⟩:=List.getElem_of_mem hx;have h1:=znh (P:=P) (l:=v) HFS.o.2 i;rw[zGD,zGE hi]at h1;have h2:=List.count_le_length (a:=i) (l:=v);(show(zec P v)[i]<256);have h3:(zec P v)[i]=v.count i:=h1;omega)
     (have hu1:1<=(zec P v).length:=by rw[zuc];omega);(have hu2:(zec P v).length<=100:=by rw[zuc];omega);have HX:=zH (HC1.o.bw HBR.o);have HBX8:=zH (zaa HB8.o HBR.o);clear HG HO hvl HTM HFM HFS HR;generalize zec P v=u at *
     obtain⟨D,hD1,hD2⟩:=HX.o.map;have HD2:=zH hD2;have d0:=HX.o.c0;have d1:=HX.o.c1;go_upto_region 23 with fail;refine wpL.st2 7 d0 d1 (λ wd hbD hHeld=> ?_);have HD1:=zH (hD1.kept (zeb hbD) (by simp));have HUD:=zH (HNT.o.bw hbD);have HBD:zI (Below wx.heap.size wx wd):=zH hbD;clear d0 d1 hD1 hD2 hbD;refine zU 0 ?_;refine zU 1 ?_;refine zU 2 ?_;refine zY 3 ?_;refine zU 4 ?_;(refine zW 5 ?_;intro K hK);refine zla 72 #[vT] ?_ ?_ (key_any _ u wd HUD.o HSM.o hu1 hu2) ?_
     ·rfl
     ·go_simp
     rintro e5 w5 ⟨rfl,hb5⟩;have hH5:=kcl2 hb5 hHeld;refine⟨_,rfl,?_⟩;refine hK.o _ _ (λ _=>hH5) ?_;have HD5:=zH (HD1.o.kept (zeb hb5) (by simp));have HB5:=zH (zaa HBD.o hb5);clear hK K hHeld hb5 HD1 HUD HBD;refine zS ?_;(refine zW 6 ?_;intro K hK);refine step_look1 78 9 3 .i64 Tryz.strLaw Tryz.underlying78 Tryz.underlying3 rfl _ _ (by rfl) (Tryz.zeroInt _) mb1 C.length D (by rfl) HD5.o (.string ⟨(zij u).toArray⟩) (.string (zij u)) (by rfl) (WideMaps.keyOf_string_mk (P:=Tryz.prog) Tryz.underlying9 (by simp[zij,maxLen,ByteArray.size];omega)) ?_;intro c hc
     have hcc:c=(C.idxOf u:Nat):=by
      have h1:=HD2.o.at' u HSM.o HTC.o;rw[hc]at h1;(injection h1 with h1);injection h1
     subst hcc;refine hK.o _ _ (λ _=>hH5) ?_;clear hK K hc;refine zS ?_;(refine zW 7 ?_;intro K hK);rw[zIP (by rfl)];go_simp;refine hK.o _ _ (λ _=>hH5) ?_;clear hK K;refine zS ?_;(refine zW 8 ?_;intro K hK);rw[zIP (by rfl)];go_simp;refine hK.o _ _ (λ _=>hH5) ?_;clear hK K hH5;refine wpL.done (by kernel_rfl) ?_ _;refine zS ?_;have h:=HRR.o;subst h;go_wp2_with fail;go_ret2;exact⟨rfl,zaa HBX8.o HB5.o⟩
theorem merge_any (ph k m st:Int) (w:World):Calls Tryz.prog 16 #[.int .i64 ph, .int .i64 k, .int .i64 m, .int .i64 st] w (zro w (zao ph k m st)):=by
 by_cases h:ph<1\/4<ph\/¬zgr k m
 ·exact merge_bad ph k m st w h
 ·have hc:zgr k m:=Decidable.byContradiction λ h2=>h (Or.inr (Or.inr h2))
  obtain⟨h1,h2,h3,h4,h5⟩:=id hc;obtain⟨P,rfl⟩:∃P:Nat,ph=P:=⟨ph.toNat,zO⟩;obtain⟨k,rfl⟩:∃n:Nat,k=n:=⟨k.toNat,zO⟩;obtain⟨m,rfl⟩:∃n:Nat,m=n:=⟨m.toNat,zO⟩;exact merge_main P k m st w zO zO zO zO zO zO
end Go.Proofs.YtkpedaflofejnaaGreat
