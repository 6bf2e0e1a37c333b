/- Lemmas. -/
import Derived.Test.YtkpedaflofejnaaGreatMLo21
set_option linter.unusedVariables false
set_option linter.unusedSimpArgs false
namespace Go.Proofs.YtkpedaflofejnaaGreat
open Go.RowKit
structure znl (w:World) (v:Value) (gs:List (List Nat)):Prop where
 sl:zlb v
 len:slen v=gs.length
 at':∀ (j:Nat) (h:j<gs.length),∃r,w.cell? (ptr v j)=some r/\zjb w r gs[j]
theorem znl.bw {w w':World} {v:Value} {gs:List (List Nat)} (h:znl w v gs) (hb:Below w.heap.size w w'):znl w' v gs:=
 ⟨h.sl,h.len,λ j hj=>by
  obtain⟨r,h1,h2⟩:=h.at' j hj;exact⟨r,zca hb h1,h2.bw hb⟩⟩
structure GrpP (gs:List (List Nat)) (n:Nat):Prop where
 few:gs.length<=100
 ne:∀g∈gs,g≠ []
 short:∀g∈gs,g.length<=100
 lt:∀g∈gs,∀x∈g,x<n
 up:∀g∈gs,∀ (j:Nat) (h:j+1<g.length),g[j]<g[j+1]
set_option maxRecDepth 100000 in
set_option maxHeartbeats 3200000 in
theorem groupsOK_ok (vg vr:Value) (gs:List (List Nat)) (rl:List Rat) (n:Nat) (nn:Int) (w:World) (hg:znl w vg gs) (hr:znc w vr rl) (hnn:nn=(n:Nat)) (hgp:GrpP gs n) (hrl:∀q∈rl,zdh q) (hl:gs.length=rl.length):
 Calls Tryz.prog 39 #[vg,vr, .int .i64 nn] w (λ e w'=>e= .returned (.bool true)/\Below w.heap.size w w'):=by
 subst hnn;have gsl:=hg.sl;have gln:=hg.len;have rsl:=hr.sl;have rln:=hr.len;obtain⟨k,hk⟩:∃k,gs.length=k:=⟨_,rfl⟩;have hk1:k<=100:=by rw[<-hk];exact hgp.few
 rw[hk]at gln hl;rw[<-hl]at rln;have HG:=zH hg;have HR:=zH hr;have HP:=zH hgp;have HRL:=zH hrl;have HL:=zH hl;have HK:=zH hk;clear hg hr hgp hrl hl hk;go_enter Tryz.func39,Tryz.ntmps39;go_wp2_with fail;go_loopg [15] (k) (λ g u15 wr=>∃i:Nat,i<=k/\g=k-i/\u15= .int .i64 i/\w=wr);case atStart=>exact⟨0,zZL _,rfl,rfl,rfl⟩
 case round=>
  obtain⟨i,hik,hgg,rfl,rfl⟩:=hrel;have HGG:=zH hgg;clear hgg;by_cases hil:i<k
  ·(have hig:i<gs.length:=by rw[HK.o];exact hil);obtain⟨r,c0,hrv⟩:=HG.o.at' i hig;have hmem:=zGM hig;have hne:=HP.o.ne _ hmem;have hsh:=HP.o.short _ hmem;have HLT:=zH (HP.o.lt _ hmem);have HUP:=zH (HP.o.up _ hmem);generalize gs[i]'hig=g at *
   have grl:=hrv.sl;have grn:=hrv.len;(have hg1:1<=g.length:=by cases g with | nil=>exact absurd rfl hne | cons a b=>simp);have HRV:=zH hrv;obtain⟨m,hm⟩:∃m,g.length=m:=⟨_,rfl⟩;have HM:=zH hm;rw[hm]at hsh grn hg1;have i1:(0:Int)<=(i:Int):=zO;have i2:(i:Int)<(k:Nat):=zO;clear hmem hne hrv hm hig;go_wp2_with fail;clear c0;go_loopg [21] (m) (λ g u21 wr=>∃j:Nat,j<=m/\g=m-j/\u21= .int .i64 j/\w=wr);case atStart=>exact⟨0,zZL _,rfl,rfl,rfl⟩
   case round=>
    obtain⟨j,hjm,hgg,rfl,rfl⟩:=hrel;have HGH:=zH hgg;clear hgg;by_cases hjl:j<m
    ·(have hjg:j<g.length:=by rw[HM.o];exact hjl);have cj:=HRV.o.at' j hjg;have hx:=HLT.o _ (zGM hjg)
     have HB:zI (∀q,q+1=j->∃y,w.cell? (ptr r q)=some (.int .i64 (y:Nat))/\y<g[j]'hjg):=zH (λ q hq=>by
      subst hq;exact⟨g[q]' zO,HRV.o.at' q zO,HUP.o q hjg⟩)
     generalize g[j]'hjg=x at *
     have e1:decide ((n:Nat)<=(x:Nat))=false:=zDF zO;have j1:(0:Int)<=(j:Int):=zO;have j2:(j:Int)<(m:Nat):=zO;clear hjg
     cases j with
     | zero=>
       go_wp2_with fail;go_roundg (m- (0+1));(case measure=>(have:=HGH.o;omega));case rel=>exact⟨0+1,zO,rfl,by go_num,rfl⟩
     | succ q=>
       obtain⟨y,cq,hyx⟩:=HB.o q rfl;have e2:decide ((x:Nat)<=(y:Nat))=false:=zDF zO;have j3:(q:Int)<(m:Nat):=zO;clear hyx;go_wp2_with fail;go_roundg (m- (q+1+1));(case measure=>(have:=HGH.o;omega));case rel=>exact⟨q+1+1,zO,rfl,by go_num,rfl⟩
    ·obtain rfl:j=m:=zO;have e0:decide ((j:Int)=0)=false:=zDF zO;(have e3:(((j:Nat):Int)==0)=false:=by simp;omega);go_wp2_with fail;go_roundg (k- (i+1));(case measure=>(have:=HGG.o;omega));case rel=>exact⟨i+1,zO,rfl,by go_num,rfl⟩
  ·obtain rfl:i=k:=zO;go_wp2_with fail;go_loopg [53] (i) (λ g u53 wr=>∃j:Nat,j<=i/\g=i-j/\u53= .int .i64 j/\Below w.heap.size w wr);case atStart=>exact⟨0,zZL _,rfl,rfl,zBR _ _⟩
   case round=>
    obtain⟨j,hji,hgg,rfl,hbr⟩:=hrel;have HGH:=zH hgg;obtain⟨wx,hwx⟩:∃w6,w6=wr:=⟨_,rfl⟩;subst hwx;have HBR:=zH hbr;clear hgg hbr;by_cases hjl:j<i
    ·(have hjr:j<rl.length:=by rw[<-HL.o];exact hjl);obtain⟨t1,xa,xb,z0,z1,z2,⟨xa1,xa2,xa3,rfl,_⟩,⟨xb1,xb2,xb3,rfl,_⟩,hx⟩:=(HR.o.bw HBR.o).at' j hjr;have hlim:=HRL.o _ (zGM hjr);have hba:=zba wx (.cells #[.bool t1, .slice xa1 xa2 xa3, .slice xb1 xb2 xb3] 53);have HX:=zH (hx.bw hba);have HBA:=zH (zaa HBR.o hba);generalize rl[j]'hjr=q at *
     have HQ:=zH hlim;have j1:(0:Int)<=(j:Int):=zO;have j2:(j:Int)<(i:Nat):=zO;clear hx hba hlim hjr
     go_wp2_with (first
      |(go_at_call 95;(with_reducible refine(lrate_ok _ q _ HX.o HQ.o).mono ?_);rintro e3 w3 ⟨rfl,hb3⟩;have HB3:=zH (zaa HBA.o hb3);clear hb3 z0 z1 z2))
     go_roundg (i- (j+1));(case measure=>(have:=HGH.o;omega));case rel=>exact⟨j+1,zO,rfl,by go_num,HB3.o⟩
    ·obtain rfl:j=i:=zO;go_wp2_with fail;go_ret;exact⟨by simp,HBR.o⟩
end Go.Proofs.YtkpedaflofejnaaGreat
namespace Go.Proofs.YtkpedaflofejnaaGreat
def zcr (ls:Nat->LwF) (v:List Nat) (i:Nat):List Mv:=if 0<v.getD i 0 then zbr (ls i) v i else []
def zvc (ls:Nat->LwF) (v:List Nat) (i:Nat):List Mv:=(List.range i).flatMap (zcr ls v)
theorem zgo (ls:Nat->LwF) (v:List Nat) (i:Nat):zvc ls v (i+1)=zvc ls v i++zcr ls v i:=by
 unfold zvc;rw[List.range_succ,List.flatMap_append,List.flatMap_cons,List.flatMap_nil,List.append_nil]
def hitG (v:List Nat) (g:List Nat×Rat):Option Mv:=if zhg v g.1=v then none else some (zhg v g.1,g.2)
def zve (gs:List (List Nat×Rat)) (v:List Nat) (j:Nat):List Mv:=(gs.take j).filterMap (hitG v)
theorem hitsP_succ {gs:List (List Nat×Rat)} {v:List Nat} {j:Nat} (h:j<gs.length):zve gs v (j+1)=zve gs v j++(hitG v gs[j]).toList:=by
 unfold zve;rw[List.take_succ_eq_append_getElem h,List.filterMap_append]
 congr 1
def repQ (ls:Nat->LwF) (rep:Nat->Rat) (v:List Nat) (q:Nat):Mv:=(v.set (zeh v) (q+1),rep (ztf v-1)*(ls (zeh v)).S q)
def znf (ls:Nat->LwF) (rep:Nat->Rat) (v:List Nat) (q:Nat):List Mv:=(List.range q).map (repQ ls rep v)
theorem repsP_succ (ls:Nat->LwF) (rep:Nat->Rat) (v:List Nat) (q:Nat):znf ls rep v (q+1)=znf ls rep v q++ [repQ ls rep v q]:=by
 unfold znf;rw[List.range_succ,List.map_append];rfl
theorem zzq (ls:Nat->LwF) (rep:Nat->Rat) (gs:List (List Nat×Rat)) (v:List Nat):zjj ls rep gs v=zvc ls v v.length++zve gs v gs.length++if ztf v=0 then []else znf ls rep v (ls (zeh v)).n:=by
 unfold zjj zvc zve znf;rw[List.take_length];rfl
def misC (v:List Nat) (i:Nat):Nat:=(v.take i).count 0
theorem misC_succ {v:List Nat} {i:Nat} (h:i<v.length):misC v (i+1)=misC v i+if v.getD i 0=0 then 1 else 0:=by
 unfold misC;rw[List.take_succ_eq_append_getElem h,List.count_append,zGD,zGE h];show _+List.count 0 [v[i]]=_+if v[i]=0 then 1 else 0
 rw[List.count_cons,List.count_nil];by_cases e:v[i]=0
 ·rw[e];rfl
 ·rw[zIN e,zIN (by simpa using e)]
theorem misC_all (v:List Nat):misC v v.length=ztf v:=by unfold misC;rw[List.take_length,zke]
theorem misC_le (v:List Nat) (i:Nat):misC v i<=i:=by
 have h:=List.count_le_length (a:=0) (l:=v.take i);rw[zTK]at h;unfold misC;omega
def znm (v:List Nat) (i:Nat):Int:=if v.idxOf 0<i then(v.idxOf 0:Nat)else -1
theorem leaI_zero (v:List Nat):znm v 0= -1:=zIN zO
theorem leaI_keep {v:List Nat} {i:Nat} (h:i<v.length) (h0:v.getD i 0≠0):znm v (i+1)=znm v i:=by
 unfold znm
 have hne:v.idxOf 0≠i:=λ e=>by
  have h1:v.idxOf 0<v.length:=zO;have h2:=List.getElem_idxOf h1;apply h0;rw[zGD,zGE h];show v[i]=0
  simp only[e]at h2;exact h2
 by_cases e:v.idxOf 0<i
 ·rw[zIP e,zIP zO]
 ·rw[zIN e,zIN zO]
theorem idxOf_le {v:List Nat}:∀ {i:Nat},i<v.length->v.getD i 0=0->v.idxOf 0<=i:=by
 induction v with
 | nil=>intro i h;simp at h
 | cons x v ih=>
   intro i h h0;rw[List.idxOf_cons]
   cases i with
   | zero=>
     have e:x=0:=h0;rw[e];simp
   | succ i=>
     have h1:=ih (i:=i) (by simpa using h) h0;cases hb:(x==0)
     ·simp;omega
     ·simp
theorem leaI_neg {v:List Nat} {i:Nat} (h:i<v.length) (h0:v.getD i 0=0) (hl:znm v i<0):znm v (i+1)=(i:Nat):=by
 unfold znm at *
 have h1:=idxOf_le h h0;by_cases e:v.idxOf 0<i
 ·rw[zIP e]at hl;omega
 ·rw[zIP zO];omega
theorem leaI_pos {v:List Nat} {i:Nat} (hl:¬znm v i<0):znm v (i+1)=znm v i:=by
 unfold znm at *
 by_cases e:v.idxOf 0<i
 ·rw[zIP e,zIP zO]
 ·rw[zIN e]at hl;omega
theorem leaI_all {v:List Nat} (h:ztf v≠0):znm v v.length=(zeh v:Nat):=by
 rw[zke]at h;have h1:(0:Nat)∈v:=List.count_pos_iff.1 zO;have h2:=List.idxOf_lt_length_iff.2 h1;unfold znm zeh;rw[zIP h2]
theorem fragI_len (ls:Nat->LwF) (v:List Nat) (i:Nat):(zcr ls v i).length<=(ls i).n+1:=by
 unfold zcr;split
 ·unfold zbr;simp
 ·simp
theorem zri {ls:Nat->LwF} {b:Nat} (h:∀i,(ls i).n<=b) (v:List Nat):∀i,(zvc ls v i).length<=i*(b+1)
 | 0=>by simp[zvc]
 | i+1=>by
   rw[zgo,zLA];have h1:=zri h v i;have h2:=fragI_len ls v i;have h3:=h i;rw[Nat.add_mul];omega
theorem hitsP_len (gs:List (List Nat×Rat)) (v:List Nat) (j:Nat):(zve gs v j).length<=j:=by
 unfold zve;have h1:=List.length_filterMap_le (hitG v) (gs.take j);rw[zTK]at h1;omega
theorem fragsP_mem {ls:Nat->LwF} {v:List Nat} {i k:Nat} (h:i<=k) {x:Mv} (hx:x∈zvc ls v i):x∈zvc ls v k:=by
 unfold zvc at *
 obtain⟨y,hy,h2⟩:=List.mem_flatMap.1 hx;exact List.mem_flatMap.2 ⟨y,List.mem_range.2 (by have:=List.mem_range.1 hy;omega),h2⟩
theorem hitsP_mem {gs:List (List Nat×Rat)} {v:List Nat} {j:Nat} {x:Mv} (hx:x∈zve gs v j):x∈zve gs v gs.length:=by
 unfold zve at *
 rw[List.take_length];obtain⟨y,hy,h2⟩:=List.mem_filterMap.1 hx;exact List.mem_filterMap.2 ⟨y,List.mem_of_mem_take hy,h2⟩
theorem repsP_mem {ls:Nat->LwF} {rep:Nat->Rat} {v:List Nat} {q n:Nat} (h:q<=n) {x:Mv} (hx:x∈znf ls rep v q):x∈znf ls rep v n:=by
 unfold znf at *
 obtain⟨y,hy,rfl⟩:=List.mem_map.1 hx;exact List.mem_map.2 ⟨y,List.mem_range.2 (by have:=List.mem_range.1 hy;omega),rfl⟩
end Go.Proofs.YtkpedaflofejnaaGreat
