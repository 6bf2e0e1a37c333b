/- Lemmas. -/
import Derived.Test.YtkpedaflofejnaaGreatMStq
set_option linter.unusedVariables false
set_option linter.unusedSimpArgs false
namespace Go.Proofs.YtkpedaflofejnaaGreat
open Go.RowKit Go.Maps
theorem zjb.grown {w w':World} {v:Value} {l:List Nat} {b:Nat} (h:zjb w v l) (hg:w.grownBy w' (some b)) (hne:(base v).block≠b):zjb w' v l:=
 ⟨zta.sl h,zta.len h,λ j hj=>hg.cell (zta.cell h j hj) (λ e=>hne (by rw[zma]at e;injection e with e))⟩
theorem Tryz.infoInts :(Tryz.prog.info? 31).map (λ i=>(i.zero,i.size,i.bytes))=some (some (.slice none 0 0),1,24):=by kernel_rfl
theorem natI_one (l:List Nat):∀u∈l.map zod,u.oneCell'=true:=λ u hu=>by
 obtain⟨x,_,rfl⟩:=List.mem_map.1 hu;rfl
theorem zbq {P:Program} (t e:TypeId) (i:TypeInfo) (z:Value) (bytes:Nat) (ht:P.underlying t=some (.slice e)) (hi:P.info? e=some i) (hz:i.zero=some z) (hsize:i.size=1) (hby:i.bytes=bytes) (hb:bytes<=100) (hzc:z.cells.size=1) (hnz:∀c∈z.cells.toList,∀z,c≠ .int .u32 z)
 {ops:Array Oper} {o:Oper} {a:Act} {w:World} {K:Act->World->Prop} {Q:Exit->Act->World->Prop} {E:Prop} (hgd:o.guard=none) (s x:Operand)
 (ho:o.op= .call { callee:= .builtin .append,args:=#[s,x],argTypes:=#[t,t] }) (hs:a.eval s= .slice none 0 0) (xv:Value) (hxe:a.eval x=xv) (es:List Value) (hx:zta w xv es) (h1:∀u∈es,u.oneCell'=true) (hnn:∀c∈es,∀z,c≠ .int .u32 z)
 (hpos:0<es.length) (hn:es.length<=1000) (h:∀v' w',zbc w' e w.heap.size 1 v' es.length es->Below w.heap.size w w'->K (a.put o.dst v') w'):
 if Region.wanted o (yielded ops a.tmps)=true then Oper.wp P o a w K Q else E:=by
 rw[zIP (by simp[Region.wanted,hgd])];obtain⟨a0,n0,k0,rfl,_,_,hz0⟩:=id hx.sl;have hl:n0=es.length:=hx.len
 cases a0 with
 | none=>have:=hz0 rfl;omega
 | some g=>
   have hnews:∀j u,es[j]? =some u->w.cell? (g.add j)=some u:=λ j u hu=>by
    obtain⟨hj,rfl⟩:=List.getElem?_eq_some_iff.1 hu;exact hx.cell j hj
   have hown:w.ownsRow w.heap.size e 1 (.slice none 0 0) 0 []:=World.ownsRow_nil w w.heap.size e 1
   obtain⟨v',w',hr,k2,k3,k4,k5⟩:=zqe (P:=P) w w.heap.size t o.type e i z 1 bytes ht hi hz hsize hby hzc zD (.slice none 0 0) 0 [] hown g n0 k0 es zO
    hnews h1 (by simp[maxLen];omega) (by
     have:=zMM (show 0+n0<=1000 by omega) hb;omega) (zLR _) (zdc.nil _) hnn hnz
   unfold Oper.wp execOp;simp only[ho,resolve,invoke,builtin,Sem.run_bind,Sem.run_pure,Result.andThen_ok,List.map_toArray,List.map_cons,List.map_nil,hs,hxe,hr];refine h v' w' ⟨?_,k5⟩ ⟨k3.os,k3.tape,k3.output,k3.size,λ k hk=>k3.block k hk (by intro e;cases e)⟩;rw[Nat.zero_add,List.nil_append,hl]at k2;exact k2
theorem Tryz.strLaw :Keyed Tryz.prog 9:=string_keyed Tryz.underlying9
theorem step_put {P:Program} (t k e:TypeId) (Kd:Keyed P k) (ht:P.underlying t=some (.map k e)) {ops:Array Oper} {o:Oper} {a:Act} {w:World} {K:Act->World->Prop} {Q:Exit->Act->World->Prop} {E:Prop} (hgd:o.guard=none) (m x v:Operand)
 (ho:o.op= .mapUpdate t m x v) (R:Value->Option (DataW Unit×List MemPlace)) (b n:Nat) (D:DataW Unit) (hm:a.eval m= .map (some b)) (hown:w.ownsMap P k R b n D) (hn:n<maxLen) (key val:Value) (kl:Lit) (hx:a.eval x=key) (hv:a.eval v=val) (hkey:keyOf P k key=some kl) (d:DataW Unit) (ps:List MemPlace) (hval:R val=some (d,ps))
 (h:∀w',w'.ownsMap P k R b (n+1) (D.put kl d)->w.grownBy w' (some b)->K (a.put o.dst undef) w'):
 if Region.wanted o (yielded ops a.tmps)=true then Oper.wp P o a w K Q else E:=by
 rw[zIP (by simp[Region.wanted,hgd])];obtain⟨w',hrun,r1,r2⟩:=hown.update Kd ht hn hkey hval;unfold Oper.wp;simp[execOp,ho,hm,hx,hv,hrun,Result.andThen];exact h w' r1 r2
set_option maxRecDepth 100000 in
set_option maxHeartbeats 3200000 in
theorem vadd_any (v:Value) (u:List Nat) (w:World) (B vb mb:Nat) (lv:Value) (rs:List Value) (L:List (List Nat)) (hv:zjb w v u) (h:zsk w B vb mb lv rs L) (hu:zhb u) (hn:u∉L) (h1:1<=u.length) (hul:u.length<=100) (hL:L.length<=200) (hvB:(base v).block≠mb):
 Calls Tryz.prog 103 #[.pointer (some ⟨vb,0,none⟩),v] w λ e w'=>e= .returned (.tuple #[])/\∃lv' rs',zsk w' B vb mb lv' rs' (L++ [u])/\zse [vb,mb] B w w':=by
 obtain⟨i3,hi3,hz3,hs3,hy3⟩:=info_parts Tryz.infoInt;obtain⟨i4,hi4,hz4,hs4,hy4⟩:=info_parts Tryz.infoInts;have hAC:=fun{ops:Array Oper} {o:Oper} {a:Act} {w:World} {K:Act->World->Prop} {Q:Exit->Act->World->Prop} {E:Prop}=>zbq (P:=Tryz.prog) 31 3 i3 (.int .i64 0) 8 Tryz.underlying31 hi3 hz3 hs3 hy3 zD rfl (λ c hc z e=>by have hc2:c∈ [Value.int .i64 0]:=hc;simp at hc2;subst hc2;cases e) (ops:=ops) (o:=o) (a:=a) (w:=w) (K:=K) (Q:=Q) (E:=E)
 have hAR:=fun{ops:Array Oper} {o:Oper} {a:Act} {w:World} {K:Act->World->Prop} {Q:Exit->Act->World->Prop} {E:Prop}=>zph (P:=Tryz.prog) 24 31 i4 Tryz.underlying24 hi4 hz4 hs4 hy4 (ops:=ops) (o:=o) (a:=a) (w:=w) (K:=K) (Q:=Q) (E:=E)
 obtain⟨D,hD1,hD2⟩:=h.map;obtain⟨av,nv,kv,rfl,_⟩:=id hv.sl;obtain⟨al,nl,kl,rfl,_⟩:=id h.sl;have HS:=zH h;have HV:=zH hv;have HU:=zH hu;have HD1:=zH hD1;have HD2:=zH hD2;have c0:=h.c0;have c1:=h.c1;have hnl:nl=L.length:=h.len;subst hnl;clear hi3 hz3 hs3 hy3 hi4 hz4 hs4 hy4 h hv hu hD1 hD2;go_enter Tryz.func103,Tryz.ntmps103;go_upto_region 0 with fail;refine wpL.st2 11 c0 c1 (λ wd hbD hHeld=> ?_);have HSD:=zH (HS.o.bw hbD);have HVD:=zH (HV.o.bw hbD);have HD1D:=zH (HD1.o.kept (zeb hbD) (by simp));have HKD:zI (zse [vb,mb] B w wd):=zH (zse.bw hbD HS.o.sz);clear c0 c1 hbD HS HV HD1;refine zU 0 ?_;refine zU 1 ?_;refine zU 2 ?_;refine zY 3 ?_;refine zU 4 ?_;refine zU 6 ?_;refine zU 7 ?_;refine zU 8 ?_;refine zY 9 ?_;refine zU 10 ?_;(refine zW 5 ?_;intro K hK);refine zla 72 #[.slice av nv kv] ?_ ?_ (key_any _ u wd HVD.o HU.o h1 hul) ?_
 ·rfl
 ·go_simp
 rintro e5 w5 ⟨rfl,hb5⟩;have hH5:=kcl2 hb5 hHeld;refine⟨_,rfl,?_⟩;refine hK.o _ _ (λ _=>hH5) ?_;have HS5:=zH (HSD.o.bw hb5);have HV5:=zH (HVD.o.bw hb5);have HD5:=zH (HD1D.o.kept (zeb hb5) (by simp));have HK5:zI (zse [vb,mb] B w w5):=zH (HKD.o.trans (zse.bw hb5 HSD.o.sz));clear hK K hHeld hb5 HSD HVD HD1D HKD;refine zS ?_;(refine zW 11 ?_;intro K hK)
 refine step_put 78 9 3 Tryz.strLaw Tryz.underlying78 rfl _ _ _ (by rfl) (plainElem Tryz.prog 3) mb L.length D (by rfl) HD5.o (by simp[maxLen];omega) (.string ⟨(zij u).toArray⟩) (.int .i64 (L.length:Nat)) (.string (zij u)) (by rfl) (by rfl)
  (WideMaps.keyOf_string_mk (P:=Tryz.prog) Tryz.underlying9 (by simp[zij,maxLen,ByteArray.size];omega)) (.lit (.int .i64 (L.length:Nat))) [] (plainElem_int Tryz.underlying3 (WalkArith.wf_i64 zO)) ?_
 intro w6 hown6 hgrow6;have HM6:=zH (HS5.o.put HU.o hn HD2.o hown6 hgrow6);have HV6:zI (zjb w6 (.slice av nv kv) u):=zH (HV5.o.grown hgrow6 hvB);have HK6:zI (zse [vb,mb] B w w6):=zH (HK5.o.trans (zse.grown hgrow6 HS5.o.sz (λ k hk=>Or.inr (by injection hk with hk;subst hk;simp))));refine hK.o _ _ (λ h=>by first | cases h | simp at h) ?_;clear hK K hH5 hown6 hgrow6 HS5 HV5 HD5 HK5;refine wpL.done (by kernel_rfl) ?_ _;refine zS ?_;have c0:=HM6.o.c0;have c1:=HM6.o.c1;have f0:=HM6.o.f0;go_upto_region 1 with fail;refine wpL.st2 11 c0 c1 (λ we hbE hHeld=> ?_);have HME:=zH (HM6.o.bw hbE);have HVE:=zH (HV6.o.bw hbE);have HKE:zI (zse [vb,mb] B w we):=zH (HK6.o.trans (zse.bw hbE HM6.o.sz));clear c0 c1 f0 hbE HM6 HV6 HK6;refine zU 0 ?_;refine zU 1 ?_;refine zU 2 ?_;refine zU 3 ?_;refine zY 4 ?_;refine zU 5 ?_;(refine zW 6 ?_;intro K hK);refine hAC rfl _ _ (by rfl) (by rfl) (.slice av nv kv) (by rfl) (u.map zod) HVE.o (natI_one u) (natI_nl u) (by simp;omega) (by simp;omega) ?_;intro v7 w7 ho7 hb7;obtain⟨x1,x2,x3,rfl,_⟩:=id ho7.sl;have h7:=kcl2 hb7 hHeld;refine hK.o _ _ (λ _=>h7) ?_;have hB7:B<=we.heap.size:=HME.o.sz;have hr7:=ho7.lower hB7;have M7:=HME.o.bw hb7;have K7:=HKE.o.trans (zse.bw (S:= [vb,mb]) hb7 HME.o.sz);clear hK K hHeld HME HVE HKE ho7 hb7;refine zS ?_;(refine zW 7 ?_;intro K hK);rw[zIP (by rfl)];go_simp;have hb8:=zba w7 (.cells #[.slice x1 x2 x3] 31);have h8:=kcl2 hb8 h7;refine hK.o _ _ (λ _=>h8) ?_;have hr8:=hr7.bw hb8;have M8:=M7.bw hb8;have K8:=K7.trans (zse.bw (S:= [vb,mb]) hb8 M7.sz);have hc8:(w7.alloc (.cells #[.slice x1 x2 x3] 31)).cell? ⟨w7.heap.size,0,none⟩=some (.slice x1 x2 x3):=by go_simp
 have hsl8:=hr8.sl;clear hK K h7 hb8 hr7 M7 K7;generalize w7.alloc (.cells #[.slice x1 x2 x3] 31)=w8 at *
 generalize w7.heap.size=g7 at *
 refine zS ?_;(refine zW 8 ?_;intro K hK);refine hAR rfl _ _ (by rfl) B (.slice al L.length kl) rs (by rfl) M8.own (.slice x1 x2 x3) hsl8 g7 (by rfl) hc8 (by rw[M8.rl];omega) M8.sz ?_;intro v9 w9 ho9 hg9 hn9 hs9;obtain⟨y1,y2,y3,rfl,_⟩:=id hs9;have hlv:∀k,(Value.slice al L.length kl).ownBlock=some k->B<=k:=λ k hk=>(M8.own.block k hk).1
 have hne:some vb≠(Value.slice al L.length kl).ownBlock:=λ e=>by have:=hlv vb e.symm;have:=M8.hv;omega
 have c09:=hg9.cell M8.c0 hne;have c19:=hg9.cell M8.c1 hne;have f09:w9.frozen? ⟨vb,0,none⟩=false:=by rw[World.frozen?_of_block (w:=w8) (a:=⟨vb,0,none⟩) (hg9.block vb (World.block_lt_of_cell? w8 _ M8.c0) hne)];exact M8.f0
 have HP:=zH (M8.push (r:= .slice x1 x2 x3) (by simpa using hr8) hg9 ho9);have HK9:zI (zse [vb,mb] B w (w9.setCell ⟨vb,0,none⟩ (.slice y1 y2 y3))):=zH ((K8.trans (zse.grown hg9 M8.sz (λ k hk=>Or.inl (hlv k hk)))).trans (zse.setCell w9 (p:=⟨vb,0,none⟩) (Or.inr (by simp)) _));have hH9:=zAI c09 c19;refine hK.o _ _ (λ _=>hH9) ?_;clear hK K h8 hr8 M8 K8 hc8 hsl8 ho9 hg9 hn9 hs9 hlv hne;refine zS ?_;(refine zW 9 ?_;intro K hK);rw[zIP (by rfl)];go_simp;refine hK.o _ _ (λ _=>hH9) ?_;clear hK K;refine zS ?_;(refine zW 10 ?_;intro K hK);rw[zIP (by rfl)];go_simp;refine hK.o _ _ (λ _=>hH9) ?_;clear hK K;refine zS ?_;(refine zW 11 ?_;intro K hK);rw[zIP (by rfl)];go_simp;refine hK.o _ _ (λ h=>by first | cases h | simp at h) ?_;clear hK K;refine wpL.done (by kernel_rfl) ?_ _;refine zS ?_;clear c09 c19 f09 hH9;go_wp2_with fail;go_end0;exact⟨rfl,_,_,HP.o,HK9.o⟩
end Go.Proofs.YtkpedaflofejnaaGreat
namespace Go.Proofs.YtkpedaflofejnaaGreat
open Go.RowKit
section
variable {w w':World} {e:TypeId} {B n:Nat} {v u:Value} {f:Nat->Rat} {S:Nat->Prop}
end
section
variable {w w':World} {B n:Nat} {vO vX:Value} {rs:List Value} {qs:Nat->List Rat} {f:Nat->Rat} {S:Nat->Prop}
theorem zhn {n i:Nat} {f g:Nat->Rat} (h:∀k,k<n->k≠i->f k=g k):(zch n f).set i (g i)=zch n g:=by
 refine List.ext_getElem (by rw[zGS,zwa,zwa]) λ k h1 h2=> ?_
 rw[zak];by_cases e:i=k
 ·subst e;rw[zSF]
 ·rw[zTN e,zak];exact h k (by rw[zwa]at h2;exact h2) (λ e2=>e e2.symm)
end
theorem zra.bS {w w':World} {e:TypeId} {B:Nat} {v:Value} {q:List Rat} (h:zra w e B v q) (hb:Below w.heap.size w w'):zra w' e B v q:=h.moves (zya.bw (B:=B) hb) (zLR _)
end Go.Proofs.YtkpedaflofejnaaGreat
namespace Go.Proofs.YtkpedaflofejnaaGreat
def bW (n D B β:Nat):Nat:=B*(β*D)+n*(n*(B*β)*B)
def bN (n D B β:Nat):Nat:=bW n D B β+n*(bW n D B β*β*B)
section
variable {n m k D B β:Nat} {M X:Mx}
end
end Go.Proofs.YtkpedaflofejnaaGreat
namespace Go.Proofs.YtkpedaflofejnaaGreat
open Go.RowKit
def vecP (l:List RF) (n:Nat):Prop:=(∀x∈l,x.ok)/\l.length=n
instance (l :List RF) (n:Nat):Decidable (vecP l n):=inferInstanceAs (Decidable (_/\_))
def shapeP (m:List (List RF)):Prop:=1<=m.length/\m.length<=24/\1<=(m.headD []).length/\(m.headD []).length<=24/\∀l∈m,vecP l (m.headD []).length
instance (m :List (List RF)):Decidable (shapeP m):=inferInstanceAs (Decidable (_/\_/\_/\_/\_))
@[go_sem] theorem slen_lit (a : Option Addr) (n c : Nat) : slen (.slice a n c) = n := rfl
end Go.Proofs.YtkpedaflofejnaaGreat
namespace Go.Proofs.YtkpedaflofejnaaGreat
def rtQ (l:LQ):Mx:=λ i j=>(l.rates.getD i []).getD j 0
def exQ (l:LQ) (i:Nat):Rat:=l.exit.getD i 0
def stQ (l:LQ) (i:Nat):Rat:=l.start.getD i 0
section
variable {l:LQ}
theorem getD_memQ {q:List Rat} {i:Nat} (hi:i<q.length):q.getD i 0∈q:=by
 rw[zGD,zGE hi];exact zGM hi
structure SmL (D B:Nat) (l:LQ):Prop where
 r:∀i j,i<l.start.length->j<l.start.length->over D B (rtQ l i j)
 e:∀i,i<l.start.length->over D B (exQ l i)
end
end Go.Proofs.YtkpedaflofejnaaGreat
namespace Go.Proofs.YtkpedaflofejnaaGreat
open Go.RowKit
def zhi (n:Nat) (f:Mx):List (List Rat):=(List.range n).map λ i=>zch n (f i)
theorem zsd (n:Nat) (f:Mx):(zhi n f).length=n:=by simp[zhi]
theorem zxe (n:Nat) (f:Mx) (i:Nat) (h:i<(zhi n f).length):(zhi n f)[i]=zch n (f i):=by simp[zhi]
theorem zuk {n:Nat} {f g:Mx} (h:∀i j,i<n->j<n->f i j=g i j):zhi n f=zhi n g:=
 List.map_congr_left λ i hi=>zeg λ j hj=>h i j (List.mem_range.1 hi) hj
theorem zeros_row (n:Nat):zgb n=zch n λ _=>0:=by
 refine List.ext_getElem (by rw[zva,zwa]) λ i h1 h2=> ?_
 rw[zak];exact(List.mem_replicate.1 (zGM h1)).2
theorem zeros_tab (n:Nat):List.replicate n (zgb n)=zhi n λ _ _=>0:=by
 refine List.ext_getElem (by simp[zhi]) λ i h1 h2=> ?_
 rw[zxe,List.getElem_replicate,zeros_row]
theorem tabL_put {n i j:Nat} {f g:Mx} (hi:i<n) (hj:j<n) (h:∀r c,r<n->c<n->¬ (r=i/\c=j)->f r c=g r c) (hi2:i<(zhi n f).length):(zhi n f).set i ((zhi n f)[i].set j (g i j))=zhi n g:=by
 refine List.ext_getElem (by simp[zhi]) λ r h1 h2=> ?_
 have hr:r<n:=by rw[zsd]at h2;exact h2
 rw[List.getElem_set,zxe n g];by_cases e:i=r
 ·subst e;rw[zIP rfl,zxe n f];exact zhn λ k hk hne=>h i k hr hk (λ e=>hne e.2)
 ·rw[zIN e,zxe n f];exact zeg λ k hk=>h r k hr hk (λ e2=>e e2.1.symm)
section
variable {w w':World} {B n:Nat} {vs ve vr:Value} {rs:List Value} {s e s' e':Nat->Rat} {f g:Mx}
end
section
variable {f g:Mx} {m n at' i k:Nat}
end
end Go.Proofs.YtkpedaflofejnaaGreat
namespace Go.Proofs.YtkpedaflofejnaaGreat
def zmj (s:Rat) (d:Nat):Nat->Rat->Rat
 | 0,p=>p
 | k+1,p=>zmj s d k p*fq false (d+(k+1)) (k+1)*s
def zaf (S:Nat->Rat):List Nat->Nat->Nat->Rat->Rat
 | [],_,_,p=>p
 | c::cs,i,d,p=>zaf S cs (i+1) (d+c) (zmj (S i) d c p)
def vecC (L:List (List Nat)) (mv:List Nat->List Mv) (st:List Nat->Rat):CQ where
 rates:=zhi (L.length+1) λ s j=>if h:s<L.length then znb L (mv L[s]) j else 0
 start:=zch (L.length+1) λ s=>if h:s<L.length then st L[s]else 0
 lost:=(List.range (L.length+1)).map λ s=>decide (s=L.length)
def cntS (l:LwF) (missing:Nat) (v:List Nat):Rat:=if v.headD 0=missing then zaf l.S v.tail 0 0 1 else 0
def cntC (l:LwF) (rep:Nat->Rat) (n m missing:Nat):CQ:=vecC (zue l.n n m) (cntM l rep) (cntS l missing)
def begV (ls:Nat->LwF) (v:List Nat):Nat->Rat->Rat
 | 0,p=>p
 | k+1,p=>begV ls v k p*(ls k).S (v.getD k 0-1)
def zyq (ls:Nat->LwF) (v:List Nat):Rat:=if ztf v=0 then begV ls v v.length 1 else 0
def zzc (L:List (List Nat)) (mv:List Nat->List Mv) (s:Nat) (g:Nat->Rat):Mx:=λ r c=>if r<s then(if h:r<L.length then znb L (mv L[r]) c else 0)else if r=s then g c else 0
section
variable {L:List (List Nat)} {mv:List Nat->List Mv} {s r c:Nat} {g g':Nat->Rat}
theorem zxm :(0:Rat)=zzc L mv 0 (znb L []) r c:=by
 unfold zzc;rw[zIN zO];split<;>rfl
theorem zuf :zzc L mv s g s c=g c:=by
 unfold zzc;rw[zIN zO,zIP rfl]
theorem tabM_other (h:r≠s):zzc L mv s g r c=zzc L mv s g' r c:=by
 unfold zzc;by_cases h1:r<s
 ·rw[zIP h1,zIP h1]
 ·rw[zIN h1,zIN h1,zIN h,zIN h]
theorem tabM_put {j:Nat} (hg:∀k,k≠j->g k=g' k) (h:¬ (r=s/\c=j)):zzc L mv s g r c=zzc L mv s g' r c:=by
 by_cases e:r=s
 ·subst e;rw[zuf,zuf];exact hg c λ e2=>h ⟨rfl,e2⟩
 ·exact tabM_other e
theorem zym (hs:s<L.length):zzc L mv s (znb L (mv L[s])) r c=zzc L mv (s+1) (znb L []) r c:=by
 unfold zzc;rcases Nat.lt_trichotomy r s with h | h | h
 ·rw[zIP h,zIP zO]
 ·subst h;rw[zIN zO,zIP rfl,zIP zO,dif_pos hs]
 ·rw[zIN zO,zIN zO,zIN zO];split<;>rfl
theorem tabM_end {n:Nat} (hn:n=L.length+1):zhi n (zzc L mv L.length (znb L []))=(vecC L mv (λ _=>0)).rates:=by
 subst hn;refine zuk λ i j hi hj=> ?_
 unfold zzc;by_cases h:i<L.length
 ·simp only[zIP h,dif_pos h]
 ·rw[zIN h,dif_neg h];split<;>rfl
theorem rowM_put {pre:List Mv} {m:Mv} {k:Nat} (h:k≠L.idxOf m.1):znb L pre k=znb L (pre++ [m]) k:=by
 rw[zgn,zIN (λ e=>h e.symm),Rat.add_zero]
theorem zkq {pre:List Mv} {m:Mv}:znb L (pre++ [m]) (L.idxOf m.1)=znb L pre (L.idxOf m.1)+m.2:=by rw[zgn,zIP rfl]
end
def stF (L:List (List Nat)) (st:List Nat->Rat) (s:Nat):Nat->Rat:=λ r=>if r<s then(if h:r<L.length then st L[r]else 0)else 0
theorem zcq {L:List (List Nat)} {st:List Nat->Rat} {r:Nat}:(0:Rat)=stF L st 0 r:=by unfold stF;rw[zIN zO]
theorem zeq {L:List (List Nat)} {st:List Nat->Rat} {s r:Nat} (h:r≠s):stF L st s r=stF L st (s+1) r:=by
 unfold stF;by_cases h1:r<s
 ·rw[zIP h1,zIP zO]
 ·rw[zIN h1,zIN zO]
theorem stF_at {L:List (List Nat)} {st:List Nat->Rat} {s:Nat} (h:s<L.length):stF L st (s+1) s=st L[s]:=by
 unfold stF;rw[zIP zO,dif_pos h]
theorem zdq {L:List (List Nat)} {st:List Nat->Rat} {s r:Nat} (h:s<L.length) (h0:st L[s]=0):stF L st s r=stF L st (s+1) r:=by
 by_cases e:r=s
 ·subst e;rw[stF_at h,h0];unfold stF;rw[zIN zO]
 ·exact zeq e
theorem stF_end {L:List (List Nat)} {st:List Nat->Rat} {mv:List Nat->List Mv} {n:Nat} (hn:n=L.length+1):zch n (stF L st L.length)=(vecC L mv st).start:=by
 subst hn;refine zeg λ i hi=> ?_
 unfold stF;by_cases h:i<L.length
 ·simp only[zIP h,dif_pos h]
 ·rw[zIN h,dif_neg h]
structure zqk (D B:Nat):Prop where
 d:D≠0
 d2:D<2^4096
 b:1000*B<2^4096
theorem zqk.fits {D B:Nat} {q:Rat} (h:zqk D B) (hq:over D B q):fits q:=hq.fits h.d (zLL zO h.b) h.d2
theorem zqk.fitsN {D B n:Nat} {q:Rat} (h:zqk D B) (hn:n<=1000) (hq:over D (n*B) q):Go.Proofs.YtkpedaflofejnaaGreat.fits q:=hq.fits h.d (zLL (zMR _ hn) h.b) h.d2
theorem rowM_over {L:List (List Nat)} {D B:Nat} (hD:D≠0):∀ (pre:List Mv) (c:Nat),(∀m∈pre,over D B m.2)->over D (pre.length*B) (znb L pre c)
 | [],c,_=>over.zero _ _
 | m::ms,c,h=>by
   (have ih:=rowM_over (L:=L) hD ms c λ x hx=>h x (by simp[hx]));(show over D ((ms.length+1)*B) ((if L.idxOf m.1=c then m.2 else 0)+znb L ms c));rw[Nat.add_mul,Nat.one_mul,Nat.add_comm];split
   ·exact over.add hD (h m (by simp)) ih
   ·rw[Rat.zero_add];exact ih.mono (Nat.le_add_left _ _)
theorem zzj {L:List (List Nat)} {D B c:Nat} {pre:List Mv} (h:zqk D B) (hm:∀m∈pre,over D B m.2) (hn:pre.length<=1000):fits (znb L pre c):=h.fitsN hn (rowM_over h.d pre c hm)
theorem fits_le {s:Bool} {a b:Nat} (hb:b≠0) (h1:a<2^4096) (h2:b<2^4096):Go.Proofs.YtkpedaflofejnaaGreat.fits (fq s a b):=
 fits_ok s ⟨hb,ztb.2 h2,ztb.2 h1⟩
def Sz (k:Nat) (q:Rat):Prop:=∃ (s:Bool) (a b:Nat),b≠0/\a<2^k/\b<2^k/\q=fq s a b
theorem Sz.one :Sz 1 1:=⟨false,1,1,zD,zD,zD,by decide+kernel⟩
theorem Sz.mul {j k:Nat} {p q:Rat} (hp:Sz j p) (hq:Sz k q):Sz (j+k) (p*q):=by
 obtain⟨s,a,b,h1,h2,h3,rfl⟩:=hp;obtain⟨t,c,d,k1,k2,k3,rfl⟩:=hq;exact⟨s != t,a*c,b*d,zMZ h1 k1,by rw[Nat.pow_add];exact Nat.mul_lt_mul'' h2 k2,by rw[Nat.pow_add];exact Nat.mul_lt_mul'' h3 k3,fq_mul _ _ _ _ _ _⟩
theorem Sz.mono {j k:Nat} {p:Rat} (hp:Sz j p) (h:j<=k):Sz k p:=by
 obtain⟨s,a,b,h1,h2,h3,rfl⟩:=hp;have:=Nat.pow_le_pow_right (show 0<2 by decide) h;exact⟨s,a,b,h1,zLM h2 this,zLM h3 this,rfl⟩
theorem Sz.fits {k:Nat} {p:Rat} (hp:Sz k p) (h:k<=4096):fits p:=by
 obtain⟨s,a,b,h1,h2,h3,rfl⟩:=hp;have:=Nat.pow_le_pow_right (show 0<2 by decide) h;exact fits_le h1 (zLM h2 this) (zLM h3 this)
theorem zdh.sz {q:Rat} (h:zdh q):Sz 32 q:=⟨decide (q<0),q.num.natAbs,q.den,q.den_nz,ztb.1 h.2.1,ztb.1 h.2.2,(zrc q).symm⟩
end Go.Proofs.YtkpedaflofejnaaGreat
namespace Go.Proofs.YtkpedaflofejnaaGreat
open Go.RowKit
def C5 (w:World) (b:Nat) (v0 v1 v2 v3 v4:Value):Prop:=w.heap[b]? =some (.cells #[v0,v1,v2,v3,v4] 86 (0,0))
section
variable {w w':World} {b:Nat} {v0 v1 v2 v3 v4:Value}
theorem C5.new (w:World) (v0 v1 v2 v3 v4:Value):C5 (w.alloc (.cells #[v0,v1,v2,v3,v4] 86)) w.heap.size v0 v1 v2 v3 v4:=by
 show(w.heap.push _)[w.heap.size]? =_;simp
theorem C5.lt (h:C5 w b v0 v1 v2 v3 v4):b<w.heap.size:=lt_of_block h
theorem C5.cells (h:C5 w b v0 v1 v2 v3 v4):w.cell? ⟨b,0,none⟩=some v0/\w.cell? ⟨b,1,none⟩=some v1/\w.cell? ⟨b,2,none⟩=some v2/\w.cell? ⟨b,3,none⟩=some v3/\w.cell? ⟨b,4,none⟩=some v4:=by
 unfold C5 at h;refine⟨?_,?_,?_,?_,?_⟩<;>simp[World.cell?,h]
theorem C5.frozen (h:C5 w b v0 v1 v2 v3 v4) (k:Nat):w.frozen? ⟨b,k,none⟩=false:=by
 unfold C5 at h;simp[World.frozen?,h]
theorem C5.bS (h:C5 w b v0 v1 v2 v3 v4) (hb:Below w.heap.size w w'):C5 w' b v0 v1 v2 v3 v4:=by
 have:=hb.block b h.lt;unfold C5 at *
 rw[this];exact h
theorem C5.grown {row:Option Nat} (h:C5 w b v0 v1 v2 v3 v4) (hg:w.grownBy w' row) (hne:row≠some b):C5 w' b v0 v1 v2 v3 v4:=by
 have:=hg.block b h.lt (λ e=>hne e.symm);unfold C5 at *
 rw[this];exact h
theorem C5.set1 (h:C5 w b v0 v1 v2 v3 v4) (u:Value):C5 (w.setCell ⟨b,1,none⟩ u) b v0 u v2 v3 v4:=by unfold C5 at *;simp[World.setCell,Array.getElem?_modify,h]
theorem C5.set2 (h:C5 w b v0 v1 v2 v3 v4) (u:Value):C5 (w.setCell ⟨b,2,none⟩ u) b v0 v1 u v3 v4:=by unfold C5 at *;simp[World.setCell,Array.getElem?_modify,h]
theorem C5.set3 (h:C5 w b v0 v1 v2 v3 v4) (u:Value):C5 (w.setCell ⟨b,3,none⟩ u) b v0 v1 v2 u v4:=by unfold C5 at *;simp[World.setCell,Array.getElem?_modify,h]
theorem C5.other (h:C5 w b v0 v1 v2 v3 v4) {p:Addr} (hp:p.block≠b) (u:Value):C5 (w.setCell p u) b v0 v1 v2 v3 v4:=by
 unfold C5 at *
 rw[Below.heap_setCell _ _ _ _ (λ e=>hp e.symm)];exact h
theorem C5.neR (h:C5 w b v0 v1 v2 v3 v4) {e:TypeId} {B size n:Nat} {v:Value} {xs:List Value} (ho:w.ownsRow B e size v n xs) (he:e≠86):v.ownBlock≠some b:=λ hv=>by
 obtain⟨c,fz,h1⟩:=Lib.ownsRow_kind ho b hv;unfold C5 at h;rw[h1]at h;injection h with h
 injection h with _ h2
 exact he h2
end
theorem zed (w:World) (p:Addr) (u:Value):w.grownBy (w.setCell p u) (some p.block):=⟨rfl,rfl,rfl,by simp[World.setCell],λ k hk hs=>Below.heap_setCell _ _ _ _ (λ e=>hs (by rw[e]))⟩
theorem zib.grown {w w':World} {e:TypeId} {B:Nat} {v:Value} {es:List Value} {row:Option Nat} (h:zib w e B v es) (hg:w.grownBy w' row) (hne:v.ownBlock=none\/v.ownBlock≠row):zib w' e B v es:=World.ownsRow.kept h hg hne
theorem zib.kindR {w:World} {e e':TypeId} {B B' size n:Nat} {v v':Value} {es xs:List Value} (h:zib w e B v es) (h':zbc w e' B' size v' n xs) (hne:e≠e'):v.ownBlock=none\/v.ownBlock≠v'.ownBlock:=by
 cases hv:v.ownBlock with
 | none=>exact Or.inl rfl
 | some g=>
   refine Or.inr (λ he=> ?_);obtain⟨c,fz,h1⟩:=Lib.ownsRow_kind h g hv;obtain⟨c',fz',h2⟩:=Lib.ownsRow_kind h'.own g he.symm;rw[h1]at h2;(injection h2 with h2);(injection h2 with _ h2);exact hne h2
theorem zra.kindE {w:World} {e e':TypeId} {B B':Nat} {v v':Value} {q:List Rat} {es:List Value} (h:zra w e B v q) (h':zib w e' B' v' es) (hne:e≠e'):v'.ownBlock=none\/v'.ownBlock≠v.ownBlock:=by
 obtain⟨xs,h1,_⟩:=h;exact zib.kindR h' h1 (λ e=>hne e.symm)
theorem zsg {w w':World} {v:Value} {hi:Nat} (hg:w.grownBy w' v.ownBlock) (hb:∀k,v.ownBlock=some k->k<hi) (hn:zdc w v):zya hi w w':=
 ⟨hg.size,λ g h1 h2=>hg.block g h2 (λ e=>by have:=hb g e.symm;omega),λ p z hp=>hg.cell hp (λ e=>by
  unfold World.cell? at hp;split at hp
  ·rename_i cur e' fz hh
   split at hp
   ·cases hp
   ·exact hn p.block e.symm cur e' fz hh _ (by have:=Array.mem_of_getElem? hp;simpa using this) _ rfl
  ·cases hp)⟩
def zvg (n:Nat):List Bool:=(List.range n).map λ s=>decide (s+1=n)
structure Bld (w:World) (B b vb hi:Nat) (vs vl vr:Value) (rs:List Value) (n:Nat) (s:Nat->Rat) (f:Mx):Prop where
 lt:B<=b
 blk:C5 w b (.pointer (some ⟨vb,0,none⟩)) vr vs vl (.int .i64 0)
 law:zvi w B vs (.slice none 0 0) vr rs (zch n s) [] (zhi n f)
 lost:zib w 4 B vl ((zvg n).map Value.bool)
 hh:hi<=w.heap.size
 hr:∀ (j:Nat) (h:j<rs.length) (k:Nat),rs[j].ownBlock=some k->k<hi
 hs:∀k:Nat,vs.ownBlock=some k->k<hi
section
variable {w w':World} {B b vb hi n:Nat} {vs vl vr:Value} {rs:List Value} {s s':Nat->Rat} {f g:Mx}
theorem Bld.bw (h:Bld w B b vb hi vs vl vr rs n s f) (hb:Below w.heap.size w w'):Bld w' B b vb hi vs vl vr rs n s f:=⟨h.lt,h.blk.bS hb,h.law.bw hb,h.lost.bw hb,zLT h.hh hb.size,h.hr,h.hs⟩
theorem Bld.congr (h:Bld w B b vb hi vs vl vr rs n s f) (h1:∀i,i<n->s i=s' i) (h2:∀i j,i<n->j<n->f i j=g i j):Bld w B b vb hi vs vl vr rs n s' g:=by
 refine⟨h.lt,h.blk,?_,h.lost,h.hh,h.hr,h.hs⟩;have h3:=h.law;rw[zeg h1,zuk h2]at h3;exact h3
theorem Bld.rsl (h:Bld w B b vb hi vs vl vr rs n s f):rs.length=n:=by
 have h1:=zvi.rl h.law;rw[zsd]at h1;exact h1
theorem Bld.sz (h:Bld w B b vb hi vs vl vr rs n s f):B<=w.heap.size:=h.law.sz
theorem Bld.putS (h:Bld w B b vb hi vs vl vr rs n s f) {i:Nat} (hi':i<n) (hs:∀k,k<n->k≠i->s k=s' k) {x y z:Value} (hf:zna w (.agg #[x,y,z]) (s' i)):
 Bld (((w.setCell (ptr vs (i*3)) x).setCell (ptr vs (i*3+1)) y).setCell (ptr vs (i*3+2)) z) B b vb hi vs vl vr rs n s' f/\Below B w (((w.setCell (ptr vs (i*3)) x).setCell (ptr vs (i*3+1)) y).setCell (ptr vs (i*3+2)) z)/\zya hi w (((w.setCell (ptr vs (i*3)) x).setCell (ptr vs (i*3+1)) y).setCell (ptr vs (i*3+2)) z):=by
 have hi2:i<(zch n s).length:=by rw[zwa];exact hi'
 have h1:=zvi.putS h.law (i:=i) hi2 hf;rw[zhn hs]at h1;obtain⟨_,hg⟩:=h.law.s.put hi2 hf
 have hne:vs.ownBlock≠some b:=by
  obtain⟨xs,k1,_⟩:=h.law.s;exact h.blk.neR k1.own zD
 exact⟨⟨h.lt,h.blk.grown hg hne,h1.1,h.lost.grown hg (h.law.s.kindE h.lost zD),zLT h.hh hg.size,h.hr,h.hs⟩,h1.2,zsg hg h.hs h.law.s.noLimb⟩
theorem Bld.putR (h:Bld w B b vb hi vs vl vr rs n s f) {i j:Nat} (hi':i<rs.length) (hj:j<n) (hs:∀r c,r<n->c<n->¬ (r=i/\c=j)->f r c=g r c) {x y z:Value} (hf:zna w (.agg #[x,y,z]) (g i j)):
 Bld (((w.setCell (ptr rs[i] (j*3)) x).setCell (ptr rs[i] (j*3+1)) y).setCell (ptr rs[i] (j*3+2)) z) B b vb hi vs vl vr rs n s g/\Below B w (((w.setCell (ptr rs[i] (j*3)) x).setCell (ptr rs[i] (j*3+1)) y).setCell (ptr rs[i] (j*3+2)) z)/\zya hi w (((w.setCell (ptr rs[i] (j*3)) x).setCell (ptr rs[i] (j*3+1)) y).setCell (ptr rs[i] (j*3+2)) z):=by
 have hn:=h.rsl;have hi2:i<(zhi n f).length:=by rw[zsd,<-hn];exact hi'
 have hj2:j<(zhi n f)[i].length:=by rw[zxe,zwa];exact hj
 have h1:=zvi.putR h.law (j:=j) hi' hi2 hj2 hf;rw[tabL_put (by rw[<-hn];exact hi') hj hs hi2]at h1;have hrow:=h.law.rows i hi' hi2;obtain⟨_,hg⟩:=hrow.put hj2 hf
 have hne:rs[i].ownBlock≠some b:=by
  obtain⟨xs,k1,_⟩:=hrow;exact h.blk.neR k1.own zD
 exact⟨⟨h.lt,h.blk.grown hg hne,h1.1,h.lost.grown hg (hrow.kindE h.lost zD),zLT h.hh hg.size,h.hr,h.hs⟩,h1.2,zsg hg (h.hr i hi') hrow.noLimb⟩
theorem Bld.row (h:Bld w B b vb hi vs vl vr rs n s f) {i:Nat} (hi':i<rs.length):zra w 53 B rs[i] (zch n (f i)):=by
 have hi2:i<(zhi n f).length:=by rw[zsd,<-h.rsl];exact hi'
 have h1:=h.law.rows i hi' hi2;rw[zxe]at h1;exact h1
theorem Bld.chain (h:Bld w B b vb hi vs vl vr rs n s f):zkc w (.agg #[vr,vs,vl]) ⟨zhi n f,zch n s,zvg n⟩:=
 ⟨vr,vs,vl,rfl,⟨h.law.ra.sl,by rw[h.law.ra.len];exact h.law.rl,λ j hj=>by
  have hj2:j<rs.length:=by rw[h.law.rl];exact hj
  exact⟨rs[j],h.law.ra.cell j hj2,(h.law.rows j hj2 hj).fracs⟩⟩,h.law.s.fracs,⟨h.lost.sl,by rw[h.lost.len],λ j hj=>h.lost.cell j hj⟩⟩
end
def mkF (w:World) (e:TypeId) (n:Nat):World:=w.alloc (.cells (madeCells #[Value.bool false, .slice none 0 0, .slice none 0 0] (n*3)) e)
theorem mkF_size (w:World) (e:TypeId) (n:Nat):(mkF w e n).heap.size=w.heap.size+1:=by simp[mkF]
theorem mkF_below (w:World) (e:TypeId) (n:Nat):Below w.heap.size w (mkF w e n):=zba w _
@[go_sem] theorem cell_mkF (w : World) (e : TypeId) (n : Nat) (p : Addr) (hp : p.block < w.heap.size) : (mkF w e n).cell? p = w.cell? p := (mkF_below w e n).cell hp
@[go_sem] theorem frozen_mkF (w : World) (e : TypeId) (n : Nat) (p : Addr) (hp : p.block < w.heap.size) : (mkF w e n).frozen? p = w.frozen? p := (mkF_below w e n).frozen hp
@[go_sem] theorem size_mkF (w : World) (e : TypeId) (n : Nat) : (mkF w e n).heap.size = w.heap.size + 1 := mkF_size w e n
section
variable {w w':World} {B n k:Nat} {vM vR vS:Value} {rs:List Value} {qs:Nat->List Rat} {f g:Nat->Rat}
theorem zek {a b:Value} (h:a.ownBlock=none\/a.ownBlock≠b.ownBlock):b.ownBlock=none\/b.ownBlock≠a.ownBlock:=by
 cases hb:b.ownBlock with
 | none=>exact Or.inl rfl
 | some x=>
   (refine Or.inr λ e=> ?_);rcases h with h | h
   ·rw[h]at e;cases e
   ·exact h (by rw[hb];exact e.symm)
end
end Go.Proofs.YtkpedaflofejnaaGreat
