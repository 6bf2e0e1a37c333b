/- Lemmas. -/
import Derived.Test.YtkpedaflofejnaaGreatMLo11
set_option linter.unusedVariables false
set_option linter.unusedSimpArgs false
namespace Go.Proofs.YtkpedaflofejnaaGreat
set_option maxHeartbeats 1600000
open Go.RowKit
structure NRows (w:World) (v:Value) (L:List (List Nat)):Prop where
 sl:zlb v
 len:slen v=L.length
 at':∀ (j:Nat) (h:j<L.length),∃r,w.cell? (ptr v j)=some r/\zjb w r L[j]
theorem NRows.bw {w w':World} {v:Value} {L:List (List Nat)} (h:NRows w v L) (hb:Below w.heap.size w w'):NRows w' v L:=
 ⟨h.sl,h.len,λ j hj=>by obtain⟨r,h1,h2⟩:=h.at' j hj;exact⟨r,zca hb h1,h2.bw hb⟩⟩
theorem idxOf_first {L:List (List Nat)} {v:List Nat}:∀ {i:Nat} (h:i<L.length),L[i]=v->(∀ (k:Nat) (hk:k<L.length),k<i->L[k]≠v)->L.idxOf v=i:=by
 induction L with
 | nil=>intro i h;simp at h
 | cons x L ih=>
   intro i h he hn
   cases i with
   | zero=>rw[List.idxOf_cons,show x=v from he];simp
   | succ i=>
     have h0:=hn 0 (by simp) zO;rw[List.idxOf_cons];(have hx:(x==v)=false:=by simpa using h0);rw[hx];have:=ih (i:=i) (by simpa using h) he (λ k hk hki=>hn (k+1) (by simpa using hk) zO);simp[this]
theorem idxOf_none {L:List (List Nat)} {v:List Nat} (hn:∀ (k:Nat) (hk:k<L.length),L[k]≠v):L.idxOf v=L.length:=
 List.idxOf_eq_length λ h=>by
  obtain⟨k,hk,he⟩:=List.getElem_of_mem h;exact hn k hk he
theorem take_all {x u:List Nat} {n:Nat} (hx:x.length=n) (hu:u.length=n) (h:∀ (j:Nat) (h1:j<x.length) (h2:j<u.length),j<n->x[j]=u[j]):x=u:=
 List.ext_getElem zO λ j h1 h2=>h j h1 h2 zO
theorem zfp (lv v:Value) (L:List (List Nat)) (u:List Nat) (w:World) (hl:NRows w lv L) (hu:zjb w v u) (hlen:∀x∈L,x.length=u.length) (hL:L.length<=8000) (hun:u.length<=100):
 Calls Tryz.prog 60 #[lv,v] w (λ e w'=>e= .returned (.int .i64 (L.idxOf u:Nat))/\Below w.heap.size w w'):=by
 have lsl:=hl.sl;have lln:=hl.len;have usl:=hu.sl;have uln:=hu.len;obtain⟨n,hn⟩:∃n,u.length=n:=⟨_,rfl⟩;rw[hn]at uln hun;have HN:=zH hn;have HL:=zH hl;have HU:=zH hu;have HLEN:=zH hlen;clear hl hu hlen hn;go_enter Tryz.func60,Tryz.ntmps60;go_wp2_with fail;go_loopg [5] (L.length) (λ g u5 wr=>∃ (i:Nat),i<=L.length/\g=L.length-i/\u5= .int .i64 i/\(∀ (k:Nat) (hk:k<L.length),k<i->L[k]≠u)/\Below w.heap.size w wr);case atStart=>exact⟨0,zZL _,rfl,rfl,λ k _ h=>zO,zBR _ _⟩
 case round=>
  obtain⟨i,hiL,hg,rfl,hno,hbr⟩:=hrel;have HG:=zH hg;have HNO:=zH hno;have HBR:=zH hbr;clear hg hno hbr;obtain⟨wx,hwx⟩:∃w6,w6=wr:=⟨_,rfl⟩;subst hwx;by_cases hil:i<L.length
  ·obtain⟨r,cr,hrv⟩:=(HL.o.bw HBR.o).at' i hil;have HXL:=zH (HLEN.o _ (zGM hil));have HX:zI (∀ (h:i<L.length),L[i]=L[i]'hil):=zH (λ _=>rfl);generalize hxx:L[i]'hil=x at *
   have HRV:=zH hrv;have HCR:=zH cr;have rsl:=hrv.sl;(have rln:slen r=n:=by rw[hrv.len,HXL.o,HN.o]);have i1:(0:Int)<=(i:Int):=zO;have i2:(i:Int)<(L.length:Nat):=zO;clear hrv cr hxx;go_wp2_with fail;go_loopg [6,7] (n) (λ g u6 u7 wr=>∃ (j:Nat) (b:Bool),j<=n/\g=n-j/\u7= .int .i64 j/\u6= .bool b/\(b=true->∀ (k:Nat) (h1:k<x.length) (h2:k<u.length),k<j->x[k]=u[k])/\(b=false->x≠u)/\Below wx.heap.size wx wr);case atStart=>exact⟨0,true,zZL _,rfl,rfl,rfl,λ _ k _ _ h=>zO,λ h=>(by cases h),zBR _ _⟩
   case round=>
    obtain⟨j,b,hjn,hg,rfl,rfl,heq,hne,hbz⟩:=hrel;have HG2:=zH hg;have HEQ:=zH heq;have HNE:=zH hne;have HBZ:=zH hbz;clear hg heq hne hbz;obtain⟨wy,hwy⟩:∃w6,w6=wr:=⟨_,rfl⟩;subst hwy
    cases b with
    | false=>
      by_cases hjl:j<n
      ·have i5:(j:Int)<(n:Nat):=zO;go_wp2_with fail;go_roundg (L.length- (i+1));case measure=>(have:=HG.o;omega)
       case rel=>exact⟨i+1,zO,rfl,by go_num,λ k hk hki=>by
        rcases zOG k i with h | h
        ·exact HNO.o k hk h
        ·obtain rfl:k=i:=zO;rw[HX.o];exact HNE.o (by simp),zaa HBR.o HBZ.o⟩
      ·obtain rfl:j=n:=zO;go_wp2_with fail;go_roundg (L.length- (i+1));case measure=>(have:=HG.o;omega)
       case rel=>exact⟨i+1,zO,rfl,by go_num,λ k hk hki=>by
        rcases zOG k i with h | h
        ·exact HNO.o k hk h
        ·obtain rfl:k=i:=zO;rw[HX.o];exact HNE.o (by simp),zaa HBR.o HBZ.o⟩
    | true=>
      by_cases hjl:j<n
      ·have i5:(j:Int)<(n:Nat):=zO;have i6:(0:Int)<=(j:Int):=zO;have cr:=zca HBZ.o HCR.o;(have hjx:j<x.length:=by rw[HXL.o,HN.o];exact hjl);(have hju:j<u.length:=by rw[HN.o];exact hjl);have c1:=(HRV.o.bw HBZ.o).at' j hjx;have c2:=(HU.o.bw (zaa HBR.o HBZ.o)).at' j hju;have HXY:zI (∀ (h1:j<x.length) (h2:j<u.length),x[j]=x[j]'hjx/\u[j]=u[j]'hju):=zH (λ _ _=>⟨rfl,rfl⟩);generalize x[j]'hjx=p at *
       generalize u[j]'hju=q at *
       have HJX:=zH hjx;have HJU:=zH hju;clear hjx hju;by_cases hpq:p=q
       ·subst hpq;go_wp2_with fail;go_quiet (fail);have hbd:=zaa HBZ.o (zia (B:=wy.heap.size) wy nq);go_wp2_with fail;go_roundg (n- (j+1));case measure=>(have:=HG2.o;omega)
        case rel=>
         refine⟨j+1,true,zO,rfl,by go_num,by simp,λ _ k h1 h2 hk=> ?_,λ h=>absurd h (by simp),hbd⟩;rcases zOG k j with h | h
         ·exact HEQ.o (by simp) k h1 h2 h
         ·obtain rfl:k=j:=zO;rw[(HXY.o h1 h2).1,(HXY.o h1 h2).2]
       ·(have hpq2:((p:Int)==(q:Int))=false:=by simp;omega);have HPQ:=zH hpq;clear hpq;go_wp2_with fail;go_quiet (fail);have hbd:=zaa HBZ.o (zia (B:=wy.heap.size) wy nq);go_wp2_with fail;go_roundg (n- (j+1));case measure=>(have:=HG2.o;omega)
        case rel=>
         refine⟨j+1,false,zO,rfl,by go_num,by simp[hpq2],λ h=>absurd h (by simp),λ _ h=>HPQ.o ?_,hbd⟩;have h1:=HXY.o HJX.o HJU.o;rw[<-h1.1,<-h1.2];subst h;rfl
      ·obtain rfl:j=n:=zO
       have HW:zI (L.idxOf u=i):=zH (idxOf_first hil (by
        rw[HX.o];exact take_all (n:=j) (by rw[HXL.o,HN.o]) HN.o (λ k h1 h2 h3=>HEQ.o (by simp) k h1 h2 h3)) HNO.o)
       go_wp2_with fail;go_ret;exact⟨by rw[HW.o];rfl,zaa HBR.o HBZ.o⟩
  ·obtain rfl:i=L.length:=zO;have HW:zI (L.idxOf u=L.length):=zH (idxOf_none λ k hk=>HNO.o k hk hk);go_wp2_with fail;go_ret;exact⟨by rw[HW.o];rfl,HBR.o⟩
set_option maxRecDepth 100000 in
theorem zqh (v:Value) (u:List Nat) (i x:Nat) (ii xx:Int) (w:World) (hv:zjb w v u) (hii:ii=(i:Nat)) (hxx:xx=(x:Nat)) (hi:i<u.length) (hn:u.length<=100):
 Calls Tryz.prog 61 #[v, .int .i64 ii, .int .i64 xx] w λ e w'=>∃v',e= .returned v'/\zib w' 3 w.heap.size v' ((u.set i x).map zod)/\Below w.heap.size w w':=by
 obtain⟨i3,hi3,hz3,hs3,hy3⟩:=info_parts Tryz.infoInt;subst hii;subst hxx;obtain⟨n,hnn⟩:∃n,u.length=n:=⟨_,rfl⟩;rw[hnn]at hi hn;have hln:slen v=n:=by rw[hv.len,hnn]
 have HV:=zH hv;have HN:=zH hnn;have i1:(0:Int)<=(i:Int):=zO;have i2:(i:Int)<(n:Nat):=zO;clear hv hnn;go_enter Tryz.func61,Tryz.ntmps61;go_wp2_with (refine zmb w rfl _ _ 31 rfl w.heap.size 3 i3 (.int .i64 0) 8 Tryz.underlying31 hi3 hz3 hs3 hy3 rfl (.slice none 0 0) [] rfl (zib.nil _ _ _) v rfl HV.o.sl (u.map zod) (by rw[zMP];exact HV.o.len) (λ j hj=>zta.cell HV.o j hj) (λ x hx=>by obtain⟨y,_,rfl⟩:=List.mem_map.1 hx;rfl) (by simp[maxLen,HN.o];omega) (by simp[HN.o];omega) (zLR _) ?_;intro v5 w5 ho5 hg5 hb5;rw[List.nil_append]at ho5;have HO:=zH ho5;have HB:=zH hb5;have s5:=ho5.sl;(have l5:slen v5=n:=by rw[ho5.len,zMP,HN.o]);obtain⟨z0,cz⟩:∃z,w5.cell? (ptr v5 i)=some z:=⟨_,ho5.cell i (by rw[zMP,HN.o];exact hi)⟩;have fz:=ho5.frozen i (by rw[zMP,HN.o];exact hi);clear ho5 hg5 hb5);go_ret;have hset:=HO.o.set i (by rw[zMP,HN.o];exact hi) (zod x);rw[<-List.map_set]at hset;exact⟨_,rfl,hset.1,HB.o.trans hset.2⟩
theorem zerV_take {u:List Nat} {i:Nat} (h:i<u.length):ztf (u.take (i+1))=ztf (u.take i)+if u[i]=0 then 1 else 0:=by
 rw[List.take_succ_eq_append_getElem h,zerV_snoc]
theorem zdp (v:Value) (u:List Nat) (w:World) (hv:zjb w v u) (hn:u.length<=100):
 Calls Tryz.prog 62 #[v] w λ e w'=>e= .returned (.int .i64 (ztf u:Nat))/\Below w.heap.size w w':=by
 have usl:=hv.sl;have uln:=hv.len;obtain⟨n,hnn⟩:∃n,u.length=n:=⟨_,rfl⟩;rw[hnn]at uln hn;have HV:=zH hv;have HN:=zH hnn;clear hv hnn;go_enter Tryz.func62,Tryz.ntmps62;go_wp2_with fail;go_loopg [3,4] (n) (λ g u3 u4 wr=>∃ (i z:Nat),i<=n/\g=n-i/\u4= .int .i64 i/\u3= .int .i64 z/\z=ztf (u.take i)/\z<=i/\Below w.heap.size w wr);case atStart=>exact⟨0,0,zZL _,rfl,rfl,rfl,rfl,zLR _,zBR _ _⟩
 case round=>
  obtain⟨i,z,hin,hg,rfl,rfl,hz,hzi,hbr⟩:=hrel;have HG:=zH hg;have HZ:=zH hz;have HBR:=zH hbr;clear hg hz hbr;by_cases hil:i<n
  ·(have hiu:i<u.length:=by rw[HN.o];exact hil);have i1:(0:Int)<=(i:Int):=zO;have i2:(i:Int)<(n:Nat):=zO;have c1:=(HV.o.bw HBR.o).at' i hiu;have HT:=zH (zerV_take hiu);generalize u[i]'hiu=x at *
   clear hiu;by_cases hx:x=0
   ·subst hx;go_wp2_with fail;go_roundg (n- (i+1));(case measure=>(have:=HG.o;omega));case rel=>exact⟨i+1,z+1,zO,rfl,by go_num,by go_num,by rw[HT.o,<-HZ.o];simp,zO,HBR.o⟩
   ·(have hx2:((x:Int)==0)=false:=by simp;omega);have HX:=zH hx;clear hx;go_wp2_with fail;go_roundg (n- (i+1));(case measure=>(have:=HG.o;omega));case rel=>exact⟨i+1,z,zO,rfl,by go_num,rfl,by rw[HT.o,<-HZ.o];simp[HX.o],zO,HBR.o⟩
  ·obtain rfl:i=n:=zO;go_wp2_with fail;go_ret;refine⟨?_,HBR.o⟩;have h:=HZ.o;rw[zTL (by rw[HN.o];exact zLR _)]at h;rw[h];rfl
instance (s :Bool) (n d:Nat):Decidable (rateP s n d):=inferInstanceAs (Decidable (_/\_/\_/\_))
def zum (w:World) (v:Value) (l:LQ):Prop:=∃s r e,v= .agg #[.string { data:=#[] },s,r,e]/\zpa w s l.start/\MatC w r l.rates/\zpa w e l.exit
theorem zum.lawC {w:World} {v:Value} {l:LQ} (h:zum w v l):LawC w v l:=by
 obtain⟨s,r,e,rfl,h1,h2,h3⟩:=h;exact⟨_,s,r,e,rfl,h1,h2,h3⟩
theorem zum.bw {w w':World} {v:Value} {l:LQ} (h:zum w v l) (hb:Below w.heap.size w w'):zum w' v l:=by
 obtain⟨s,r,e,rfl,h1,h2,h3⟩:=h;exact⟨s,r,e,rfl,h1.bw hb,h2.bw hb,h3.bw hb⟩
theorem zra.prep {w:World} {e:TypeId} {B:Nat} {v:Value} {q:List Rat} {i:Nat} (hr:zra w e B v q) (hj:i<q.length):∃ (t:Bool) (x y:Value),w.cell? (ptr v (i*3))=some (.bool t)/\w.cell? (ptr v (i*3+1))=some x/\w.cell? (ptr v (i*3+2))=some y/\
 w.frozen? (ptr v (i*3))=false/\w.frozen? (ptr v (i*3+1))=false/\w.frozen? (ptr v (i*3+2))=false/\zlb v/\ptr v (i*3)≠ptr v (i*3+1)/\ptr v (i*3)≠ptr v (i*3+2)/\ptr v (i*3+1)≠ptr v (i*3+2):=by
 have hl:=zLL (zZL _) hj;obtain⟨a,b,h1,h2,h3,_⟩:=hr.fracs.at' i hj;exact⟨_,a,b,h1,h2,h3,hr.frozen _ zO,hr.frozen _ zO,hr.frozen _ zO,hr.sl,hr.inj hl zO,hr.inj hl zO,hr.inj hl zO⟩
section
variable {P:Program} {md:Region.Mode} {ops:Array Oper} {Q:Exit->Act->World->Prop} {S:World->Prop} {z fuel:Nat} {l l':Array Bool} {a:Act} {A:Value->Act} {w:World} {o:Oper}
theorem zCF {q:Rat} (k:Nat) (f:FuncId) (argv:Array Value) (hc:Calls P f argv w (RF1 w q))
 (h:∀t a1 l1 k1 a2 l2 k2 w',zna w' (.agg #[.bool t, .slice a1 l1 k1, .slice a2 l2 k2]) q->Below w.heap.size w w'->S w'/\(S w'->wpL P md ops Q S z fuel l' (A (.agg #[.bool t, .slice a1 l1 k1, .slice a2 l2 k2])) w'))
 (ho:ops[k]? =some o:=by(simp only[List.getElem?_toArray,List.getElem?_cons_succ,List.getElem?_cons_zero];rfl)) (hr:Region.ready md ops l= [k]:=by kernel_rfl) (hg:Region.wanted o (yielded ops a.tmps)=true:=by rfl)
 (hrun:(execOp a.eval o).run P w= .ok (.enter f argv) w:=by go_simp) (hl:l.setIfInBounds k true=l':=by((try simp only[List.setIfInBounds_toArray,List.set_cons_zero,List.set_cons_succ]);rfl))
 (ha:∀v,a.put o.dst v=A v:=by(intro v;simp only[Act.put,List.setIfInBounds_toArray,List.set_cons_zero,List.set_cons_succ];rfl)):wpL P md ops Q S z (fuel+1) l a w:=by
 subst hl;refine wpL.one k hr (by rw[ho];rfl) λ o' h' K hK=> ?_
 rw[ho]at h';injection h' with h'
 subst h';refine zla f argv hg hrun hc ?_;rintro e w' ⟨v,rfl,hv,hb⟩;obtain⟨t,a1,l1,k1,a2,l2,k2,rfl⟩:=hv.iF;obtain⟨h1,h2⟩:=h t a1 l1 k1 a2 l2 k2 w' hv hb;refine⟨_,rfl,hK.o _ _ (λ _=>h1) ?_⟩;rw[ha];exact h2 h1
theorem zCG {q:Rat} (k:Nat) (f:FuncId) (argv:Array Value) (hc:Calls P f argv w (RF0 w q))
 (h:∀t a1 l1 k1 a2 l2 k2 w',zna w' (.agg #[.bool t, .slice a1 l1 k1, .slice a2 l2 k2]) q->Below w.heap.size w w'->S w'/\(S w'->wpL P md ops Q S z fuel l' (A (.tuple #[.agg #[.bool t, .slice a1 l1 k1, .slice a2 l2 k2], .int .i64 0])) w'))
 (ho:ops[k]? =some o:=by(simp only[List.getElem?_toArray,List.getElem?_cons_succ,List.getElem?_cons_zero];rfl)) (hr:Region.ready md ops l= [k]:=by kernel_rfl) (hg:Region.wanted o (yielded ops a.tmps)=true:=by rfl)
 (hrun:(execOp a.eval o).run P w= .ok (.enter f argv) w:=by go_simp) (hl:l.setIfInBounds k true=l':=by((try simp only[List.setIfInBounds_toArray,List.set_cons_zero,List.set_cons_succ]);rfl))
 (ha:∀v,a.put o.dst v=A v:=by(intro v;simp only[Act.put,List.setIfInBounds_toArray,List.set_cons_zero,List.set_cons_succ];rfl)):wpL P md ops Q S z (fuel+1) l a w:=by
 subst hl;refine wpL.one k hr (by rw[ho];rfl) λ o' h' K hK=> ?_
 rw[ho]at h';injection h' with h'
 subst h';refine zla f argv hg hrun hc ?_;rintro e w' ⟨v,rfl,hv,hb⟩;obtain⟨t,a1,l1,k1,a2,l2,k2,rfl⟩:=hv.iF;obtain⟨h1,h2⟩:=h t a1 l1 k1 a2 l2 k2 w' hv hb;refine⟨_,rfl,hK.o _ _ (λ _=>h1) ?_⟩;rw[ha];exact h2 h1
end
section
variable {w w':World} {a1 a2 a3 a4 a5 a6 a7 a8 a9 a10 a11 a12 a13 a14:Addr} {v1 v2 v3 v4 v5 v6 v7 v8 v9 v10 v11 v12 v13 v14:Value}
theorem kcl2 (hb:Below w.heap.size w w') (h:w.cell? a13=some v13/\w.cell? a14=some v14):w'.cell? a13=some v13/\w'.cell? a14=some v14:=⟨zca hb h.1,zca hb h.2⟩
theorem zpp (hb:Below w.heap.size w w') (h:w.cell? a12=some v12/\w.cell? a13=some v13/\w.cell? a14=some v14):w'.cell? a12=some v12/\w'.cell? a13=some v13/\w'.cell? a14=some v14:=⟨zca hb h.1,kcl2 hb h.2⟩
theorem kcl4 (hb:Below w.heap.size w w') (h:w.cell? a11=some v11/\w.cell? a12=some v12/\w.cell? a13=some v13/\w.cell? a14=some v14):w'.cell? a11=some v11/\w'.cell? a12=some v12/\w'.cell? a13=some v13/\w'.cell? a14=some v14:=⟨zca hb h.1,zpp hb h.2⟩
theorem kcl5 (hb:Below w.heap.size w w') (h:w.cell? a10=some v10/\w.cell? a11=some v11/\w.cell? a12=some v12/\w.cell? a13=some v13/\w.cell? a14=some v14):w'.cell? a10=some v10/\w'.cell? a11=some v11/\w'.cell? a12=some v12/\w'.cell? a13=some v13/\w'.cell? a14=some v14:=⟨zca hb h.1,kcl4 hb h.2⟩
theorem kcl6 (hb:Below w.heap.size w w') (h:w.cell? a9=some v9/\w.cell? a10=some v10/\w.cell? a11=some v11/\w.cell? a12=some v12/\w.cell? a13=some v13/\w.cell? a14=some v14):w'.cell? a9=some v9/\w'.cell? a10=some v10/\w'.cell? a11=some v11/\w'.cell? a12=some v12/\w'.cell? a13=some v13/\w'.cell? a14=some v14:=⟨zca hb h.1,kcl5 hb h.2⟩
theorem kcl7 (hb:Below w.heap.size w w') (h:w.cell? a8=some v8/\w.cell? a9=some v9/\w.cell? a10=some v10/\w.cell? a11=some v11/\w.cell? a12=some v12/\w.cell? a13=some v13/\w.cell? a14=some v14):w'.cell? a8=some v8/\w'.cell? a9=some v9/\w'.cell? a10=some v10/\w'.cell? a11=some v11/\w'.cell? a12=some v12/\w'.cell? a13=some v13/\w'.cell? a14=some v14:=⟨zca hb h.1,kcl6 hb h.2⟩
theorem kcl8 (hb:Below w.heap.size w w') (h:w.cell? a7=some v7/\w.cell? a8=some v8/\w.cell? a9=some v9/\w.cell? a10=some v10/\w.cell? a11=some v11/\w.cell? a12=some v12/\w.cell? a13=some v13/\w.cell? a14=some v14):w'.cell? a7=some v7/\w'.cell? a8=some v8/\w'.cell? a9=some v9/\w'.cell? a10=some v10/\w'.cell? a11=some v11/\w'.cell? a12=some v12/\w'.cell? a13=some v13/\w'.cell? a14=some v14:=⟨zca hb h.1,kcl7 hb h.2⟩
theorem kcl9 (hb:Below w.heap.size w w') (h:w.cell? a6=some v6/\w.cell? a7=some v7/\w.cell? a8=some v8/\w.cell? a9=some v9/\w.cell? a10=some v10/\w.cell? a11=some v11/\w.cell? a12=some v12/\w.cell? a13=some v13/\w.cell? a14=some v14):w'.cell? a6=some v6/\w'.cell? a7=some v7/\w'.cell? a8=some v8/\w'.cell? a9=some v9/\w'.cell? a10=some v10/\w'.cell? a11=some v11/\w'.cell? a12=some v12/\w'.cell? a13=some v13/\w'.cell? a14=some v14:=⟨zca hb h.1,kcl8 hb h.2⟩
theorem kcl10 (hb:Below w.heap.size w w') (h:w.cell? a5=some v5/\w.cell? a6=some v6/\w.cell? a7=some v7/\w.cell? a8=some v8/\w.cell? a9=some v9/\w.cell? a10=some v10/\w.cell? a11=some v11/\w.cell? a12=some v12/\w.cell? a13=some v13/\w.cell? a14=some v14):w'.cell? a5=some v5/\w'.cell? a6=some v6/\w'.cell? a7=some v7/\w'.cell? a8=some v8/\w'.cell? a9=some v9/\w'.cell? a10=some v10/\w'.cell? a11=some v11/\w'.cell? a12=some v12/\w'.cell? a13=some v13/\w'.cell? a14=some v14:=⟨zca hb h.1,kcl9 hb h.2⟩
theorem kcl11 (hb:Below w.heap.size w w') (h:w.cell? a4=some v4/\w.cell? a5=some v5/\w.cell? a6=some v6/\w.cell? a7=some v7/\w.cell? a8=some v8/\w.cell? a9=some v9/\w.cell? a10=some v10/\w.cell? a11=some v11/\w.cell? a12=some v12/\w.cell? a13=some v13/\w.cell? a14=some v14):w'.cell? a4=some v4/\w'.cell? a5=some v5/\w'.cell? a6=some v6/\w'.cell? a7=some v7/\w'.cell? a8=some v8/\w'.cell? a9=some v9/\w'.cell? a10=some v10/\w'.cell? a11=some v11/\w'.cell? a12=some v12/\w'.cell? a13=some v13/\w'.cell? a14=some v14:=⟨zca hb h.1,kcl10 hb h.2⟩
theorem kcl12 (hb:Below w.heap.size w w') (h:w.cell? a3=some v3/\w.cell? a4=some v4/\w.cell? a5=some v5/\w.cell? a6=some v6/\w.cell? a7=some v7/\w.cell? a8=some v8/\w.cell? a9=some v9/\w.cell? a10=some v10/\w.cell? a11=some v11/\w.cell? a12=some v12/\w.cell? a13=some v13/\w.cell? a14=some v14):w'.cell? a3=some v3/\w'.cell? a4=some v4/\w'.cell? a5=some v5/\w'.cell? a6=some v6/\w'.cell? a7=some v7/\w'.cell? a8=some v8/\w'.cell? a9=some v9/\w'.cell? a10=some v10/\w'.cell? a11=some v11/\w'.cell? a12=some v12/\w'.cell? a13=some v13/\w'.cell? a14=some v14:=⟨zca hb h.1,kcl11 hb h.2⟩
end
section
variable {P:Program} {ops:Array Oper} {Q:Exit->Act->World->Prop} {a:Act} {w:World} {id:Nat} {a1 a2 a3 a4 a5 a6 a7 a8 a9 a10 a11 a12 a13 a14:Addr} {v1 v2 v3 v4 v5 v6 v7 v8 v9 v10 v11 v12 v13 v14:Value}
theorem wpL.st2 (z:Nat) (c1:w.cell? a1=some v1) (c2:w.cell? a2=some v2) (h:∀wd,Below w.heap.size w wd->wd.cell? a1=some v1/\wd.cell? a2=some v2->wpL P .any ops Q (λ w'=>w'.cell? a1=some v1/\w'.cell? a2=some v2) z ops.size (Array.replicate ops.size false) a wd) (hm:P.follows .mixedOrders=true:=by kernel_rfl):(Code.region id ops true).wp P Q a w:=
 wpL.start z _ hm (kcl2 (zha _) ⟨c1,c2⟩) λ hH=>h _ (zha _) hH
theorem wpL.st3 (z:Nat) (c1:w.cell? a1=some v1) (c2:w.cell? a2=some v2) (c3:w.cell? a3=some v3) (h:∀wd,Below w.heap.size w wd->wd.cell? a1=some v1/\wd.cell? a2=some v2/\wd.cell? a3=some v3->wpL P .any ops Q (λ w'=>w'.cell? a1=some v1/\w'.cell? a2=some v2/\w'.cell? a3=some v3) z ops.size (Array.replicate ops.size false) a wd) (hm:P.follows .mixedOrders=true:=by kernel_rfl):(Code.region id ops true).wp P Q a w:=
 wpL.start z _ hm (zpp (zha _) ⟨c1,c2,c3⟩) λ hH=>h _ (zha _) hH
theorem wpL.st4 (z:Nat) (c1:w.cell? a1=some v1) (c2:w.cell? a2=some v2) (c3:w.cell? a3=some v3) (c4:w.cell? a4=some v4) (h:∀wd,Below w.heap.size w wd->wd.cell? a1=some v1/\wd.cell? a2=some v2/\wd.cell? a3=some v3/\wd.cell? a4=some v4->wpL P .any ops Q (λ w'=>w'.cell? a1=some v1/\w'.cell? a2=some v2/\w'.cell? a3=some v3/\w'.cell? a4=some v4) z ops.size (Array.replicate ops.size false) a wd) (hm:P.follows .mixedOrders=true:=by kernel_rfl):(Code.region id ops true).wp P Q a w:=
 wpL.start z _ hm (kcl4 (zha _) ⟨c1,c2,c3,c4⟩) λ hH=>h _ (zha _) hH
theorem wpL.st5 (z:Nat) (c1:w.cell? a1=some v1) (c2:w.cell? a2=some v2) (c3:w.cell? a3=some v3) (c4:w.cell? a4=some v4) (c5:w.cell? a5=some v5) (h:∀wd,Below w.heap.size w wd->wd.cell? a1=some v1/\wd.cell? a2=some v2/\wd.cell? a3=some v3/\wd.cell? a4=some v4/\wd.cell? a5=some v5->wpL P .any ops Q (λ w'=>w'.cell? a1=some v1/\w'.cell? a2=some v2/\w'.cell? a3=some v3/\w'.cell? a4=some v4/\w'.cell? a5=some v5) z ops.size (Array.replicate ops.size false) a wd) (hm:P.follows .mixedOrders=true:=by kernel_rfl):(Code.region id ops true).wp P Q a w:=
 wpL.start z _ hm (kcl5 (zha _) ⟨c1,c2,c3,c4,c5⟩) λ hH=>h _ (zha _) hH
theorem wpL.st6 (z:Nat) (c1:w.cell? a1=some v1) (c2:w.cell? a2=some v2) (c3:w.cell? a3=some v3) (c4:w.cell? a4=some v4) (c5:w.cell? a5=some v5) (c6:w.cell? a6=some v6) (h:∀wd,Below w.heap.size w wd->wd.cell? a1=some v1/\wd.cell? a2=some v2/\wd.cell? a3=some v3/\wd.cell? a4=some v4/\wd.cell? a5=some v5/\wd.cell? a6=some v6->wpL P .any ops Q (λ w'=>w'.cell? a1=some v1/\w'.cell? a2=some v2/\w'.cell? a3=some v3/\w'.cell? a4=some v4/\w'.cell? a5=some v5/\w'.cell? a6=some v6) z ops.size (Array.replicate ops.size false) a wd) (hm:P.follows .mixedOrders=true:=by kernel_rfl):(Code.region id ops true).wp P Q a w:=
 wpL.start z _ hm (kcl6 (zha _) ⟨c1,c2,c3,c4,c5,c6⟩) λ hH=>h _ (zha _) hH
theorem wpL.st7 (z:Nat) (c1:w.cell? a1=some v1) (c2:w.cell? a2=some v2) (c3:w.cell? a3=some v3) (c4:w.cell? a4=some v4) (c5:w.cell? a5=some v5) (c6:w.cell? a6=some v6) (c7:w.cell? a7=some v7) (h:∀wd,Below w.heap.size w wd->wd.cell? a1=some v1/\wd.cell? a2=some v2/\wd.cell? a3=some v3/\wd.cell? a4=some v4/\wd.cell? a5=some v5/\wd.cell? a6=some v6/\wd.cell? a7=some v7->wpL P .any ops Q (λ w'=>w'.cell? a1=some v1/\w'.cell? a2=some v2/\w'.cell? a3=some v3/\w'.cell? a4=some v4/\w'.cell? a5=some v5/\w'.cell? a6=some v6/\w'.cell? a7=some v7) z ops.size (Array.replicate ops.size false) a wd) (hm:P.follows .mixedOrders=true:=by kernel_rfl):(Code.region id ops true).wp P Q a w:=
 wpL.start z _ hm (kcl7 (zha _) ⟨c1,c2,c3,c4,c5,c6,c7⟩) λ hH=>h _ (zha _) hH
theorem wpL.st8 (z:Nat) (c1:w.cell? a1=some v1) (c2:w.cell? a2=some v2) (c3:w.cell? a3=some v3) (c4:w.cell? a4=some v4) (c5:w.cell? a5=some v5) (c6:w.cell? a6=some v6) (c7:w.cell? a7=some v7) (c8:w.cell? a8=some v8) (h:∀wd,Below w.heap.size w wd->wd.cell? a1=some v1/\wd.cell? a2=some v2/\wd.cell? a3=some v3/\wd.cell? a4=some v4/\wd.cell? a5=some v5/\wd.cell? a6=some v6/\wd.cell? a7=some v7/\wd.cell? a8=some v8->wpL P .any ops Q (λ w'=>w'.cell? a1=some v1/\w'.cell? a2=some v2/\w'.cell? a3=some v3/\w'.cell? a4=some v4/\w'.cell? a5=some v5/\w'.cell? a6=some v6/\w'.cell? a7=some v7/\w'.cell? a8=some v8) z ops.size (Array.replicate ops.size false) a wd) (hm:P.follows .mixedOrders=true:=by kernel_rfl):(Code.region id ops true).wp P Q a w:=
 wpL.start z _ hm (kcl8 (zha _) ⟨c1,c2,c3,c4,c5,c6,c7,c8⟩) λ hH=>h _ (zha _) hH
theorem wpL.st9 (z:Nat) (c1:w.cell? a1=some v1) (c2:w.cell? a2=some v2) (c3:w.cell? a3=some v3) (c4:w.cell? a4=some v4) (c5:w.cell? a5=some v5) (c6:w.cell? a6=some v6) (c7:w.cell? a7=some v7) (c8:w.cell? a8=some v8) (c9:w.cell? a9=some v9) (h:∀wd,Below w.heap.size w wd->wd.cell? a1=some v1/\wd.cell? a2=some v2/\wd.cell? a3=some v3/\wd.cell? a4=some v4/\wd.cell? a5=some v5/\wd.cell? a6=some v6/\wd.cell? a7=some v7/\wd.cell? a8=some v8/\wd.cell? a9=some v9->wpL P .any ops Q (λ w'=>w'.cell? a1=some v1/\w'.cell? a2=some v2/\w'.cell? a3=some v3/\w'.cell? a4=some v4/\w'.cell? a5=some v5/\w'.cell? a6=some v6/\w'.cell? a7=some v7/\w'.cell? a8=some v8/\w'.cell? a9=some v9) z ops.size (Array.replicate ops.size false) a wd) (hm:P.follows .mixedOrders=true:=by kernel_rfl):(Code.region id ops true).wp P Q a w:=
 wpL.start z _ hm (kcl9 (zha _) ⟨c1,c2,c3,c4,c5,c6,c7,c8,c9⟩) λ hH=>h _ (zha _) hH
theorem wpL.st10 (z:Nat) (c1:w.cell? a1=some v1) (c2:w.cell? a2=some v2) (c3:w.cell? a3=some v3) (c4:w.cell? a4=some v4) (c5:w.cell? a5=some v5) (c6:w.cell? a6=some v6) (c7:w.cell? a7=some v7) (c8:w.cell? a8=some v8) (c9:w.cell? a9=some v9) (c10:w.cell? a10=some v10) (h:∀wd,Below w.heap.size w wd->wd.cell? a1=some v1/\wd.cell? a2=some v2/\wd.cell? a3=some v3/\wd.cell? a4=some v4/\wd.cell? a5=some v5/\wd.cell? a6=some v6/\wd.cell? a7=some v7/\wd.cell? a8=some v8/\wd.cell? a9=some v9/\wd.cell? a10=some v10->wpL P .any ops Q (λ w'=>w'.cell? a1=some v1/\w'.cell? a2=some v2/\w'.cell? a3=some v3/\w'.cell? a4=some v4/\w'.cell? a5=some v5/\w'.cell? a6=some v6/\w'.cell? a7=some v7/\w'.cell? a8=some v8/\w'.cell? a9=some v9/\w'.cell? a10=some v10) z ops.size (Array.replicate ops.size false) a wd) (hm:P.follows .mixedOrders=true:=by kernel_rfl):(Code.region id ops true).wp P Q a w:=
 wpL.start z _ hm (kcl10 (zha _) ⟨c1,c2,c3,c4,c5,c6,c7,c8,c9,c10⟩) λ hH=>h _ (zha _) hH
theorem wpL.st11 (z:Nat) (c1:w.cell? a1=some v1) (c2:w.cell? a2=some v2) (c3:w.cell? a3=some v3) (c4:w.cell? a4=some v4) (c5:w.cell? a5=some v5) (c6:w.cell? a6=some v6) (c7:w.cell? a7=some v7) (c8:w.cell? a8=some v8) (c9:w.cell? a9=some v9) (c10:w.cell? a10=some v10) (c11:w.cell? a11=some v11) (h:∀wd,Below w.heap.size w wd->wd.cell? a1=some v1/\wd.cell? a2=some v2/\wd.cell? a3=some v3/\wd.cell? a4=some v4/\wd.cell? a5=some v5/\wd.cell? a6=some v6/\wd.cell? a7=some v7/\wd.cell? a8=some v8/\wd.cell? a9=some v9/\wd.cell? a10=some v10/\wd.cell? a11=some v11->wpL P .any ops Q (λ w'=>w'.cell? a1=some v1/\w'.cell? a2=some v2/\w'.cell? a3=some v3/\w'.cell? a4=some v4/\w'.cell? a5=some v5/\w'.cell? a6=some v6/\w'.cell? a7=some v7/\w'.cell? a8=some v8/\w'.cell? a9=some v9/\w'.cell? a10=some v10/\w'.cell? a11=some v11) z ops.size (Array.replicate ops.size false) a wd) (hm:P.follows .mixedOrders=true:=by kernel_rfl):(Code.region id ops true).wp P Q a w:=
 wpL.start z _ hm (kcl11 (zha _) ⟨c1,c2,c3,c4,c5,c6,c7,c8,c9,c10,c11⟩) λ hH=>h _ (zha _) hH
theorem wpL.st12 (z:Nat) (c1:w.cell? a1=some v1) (c2:w.cell? a2=some v2) (c3:w.cell? a3=some v3) (c4:w.cell? a4=some v4) (c5:w.cell? a5=some v5) (c6:w.cell? a6=some v6) (c7:w.cell? a7=some v7) (c8:w.cell? a8=some v8) (c9:w.cell? a9=some v9) (c10:w.cell? a10=some v10) (c11:w.cell? a11=some v11) (c12:w.cell? a12=some v12) (h:∀wd,Below w.heap.size w wd->wd.cell? a1=some v1/\wd.cell? a2=some v2/\wd.cell? a3=some v3/\wd.cell? a4=some v4/\wd.cell? a5=some v5/\wd.cell? a6=some v6/\wd.cell? a7=some v7/\wd.cell? a8=some v8/\wd.cell? a9=some v9/\wd.cell? a10=some v10/\wd.cell? a11=some v11/\wd.cell? a12=some v12->wpL P .any ops Q (λ w'=>w'.cell? a1=some v1/\w'.cell? a2=some v2/\w'.cell? a3=some v3/\w'.cell? a4=some v4/\w'.cell? a5=some v5/\w'.cell? a6=some v6/\w'.cell? a7=some v7/\w'.cell? a8=some v8/\w'.cell? a9=some v9/\w'.cell? a10=some v10/\w'.cell? a11=some v11/\w'.cell? a12=some v12) z ops.size (Array.replicate ops.size false) a wd) (hm:P.follows .mixedOrders=true:=by kernel_rfl):(Code.region id ops true).wp P Q a w:=
 wpL.start z _ hm (kcl12 (zha _) ⟨c1,c2,c3,c4,c5,c6,c7,c8,c9,c10,c11,c12⟩) λ hH=>h _ (zha _) hH
end
end Go.Proofs.YtkpedaflofejnaaGreat
