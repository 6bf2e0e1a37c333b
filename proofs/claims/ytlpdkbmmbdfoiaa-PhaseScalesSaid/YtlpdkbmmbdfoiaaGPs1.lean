/-
  A law whose rates are multiplied by a number. No program is walked here.
-/
import Derived.Test.YtlpdkbmmbdfoiaaGPp6
import Derived.Test.YtlpdkbmmbdfoiaaGPh14
set_option linter.unusedVariables false
set_option linter.unusedSimpArgs false
namespace Go.Proofs.Ytlpdkbmmbdfoiaa
def scL (k:Rat) (l:LQ):LQ:=⟨l.start,l.exit.map (fun q=>k*q),l.rates.map fun r=>r.map fun q=>k*q⟩
section
variable {k:Rat} {l:LQ}
theorem zbq (k:Rat) (q:List Rat) (i:Nat):(q.map fun q=>k*q).getD i 0=k*q.getD i 0:=by
 rw[List.getD_eq_getElem?_getD,List.getD_eq_getElem?_getD,List.getElem?_map]
 cases q[i]? with
 | none=>show(0:Rat)=k*0;rw[Rat.mul_zero]
 | some x=>rfl
theorem zmq (i:Nat):(scL k l).rates.getD i []=(l.rates.getD i []).map fun q=>k*q:=by
 unfold scL
 rw[List.getD_eq_getElem?_getD,List.getD_eq_getElem?_getD,List.getElem?_map]
 cases l.rates[i]? <;>rfl
theorem rtQ_sc (i j:Nat):rtQ (scL k l) i j=k*rtQ l i j:=by
 unfold rtQ
 rw[zmq,zbq]
theorem exQ_sc (i:Nat):exQ (scL k l) i=k*exQ l i:=zbq _ _ _
theorem zzp (k:Rat):∀q:List Rat,zgg (q.map fun q=>k*q)=k*zgg q
 | []=>by show(0:Rat)=k*0;rw[Rat.mul_zero]
 | x::q=>by rw[List.map_cons,zxp,zxp,zzp k q];grind
theorem outQ_sc (i:Nat):zxf (scL k l) i=k*zxf l i:=by
 unfold zxf
 rw[zgl,zgl,zmq,zzp,show(scL k l).exit.getD i 0=k*l.exit.getD i 0 from zbq _ _ _]
 grind
theorem phA_sc (i j:Nat):phA (scL k l) i j=k*phA l i j:=by
 unfold phA
 rw[outQ_sc,rtQ_sc]
 split
 ·rfl
 ·grind
theorem zxb.scale (h:zxb l) (hk:0<k) (he:∀q∈l.exit,zvg (k*q)) (hr:∀ (i:Nat) (hi:i<l.rates.length),∀q∈l.rates[i],zvg (k*q)):zxb (scL k l) where
 n1:=h.n1
 n4:=h.n4
 el:=by show(l.exit.map _).length=_;rw[List.length_map];exact h.el
 rl:=by show(l.rates.map _).length=_;rw[List.length_map];exact h.rl
 st:=h.st
 ex:=fun q hq=>by
  obtain⟨p,hp,rfl⟩:=List.mem_map.1 (show q∈l.exit.map _ from hq)
  exact he p hp
 row:=fun i hi=>by
  have hi2:i<l.rates.length:=by
   have h1:i<(l.rates.map fun r=>r.map fun q=>k*q).length:=hi
   rw[List.length_map]at h1;exact h1
  have e:(scL k l).rates[i]=(l.rates[i]).map fun q=>k*q:=List.getElem_map _
  obtain⟨h1,h2,h3⟩:=h.row i hi2
  rw[e]
  refine⟨by rw[List.length_map];exact h1,fun q hq=> ?_,by rw[zbq,h3,Rat.mul_zero]⟩
  obtain⟨p,hp,rfl⟩:=List.mem_map.1 hq
  exact hr i hi2 p hp
 sum:=h.sum
 ends:=by
  obtain⟨d,hd⟩:=h.ends
  refine⟨d,fun i hi=> ?_⟩
  obtain⟨h1,h2⟩:=hd i hi
  refine⟨h1,?_⟩
  rcases h2 with h2 | ⟨j,h3,h4,h5⟩
  ·refine Or.inl ?_
   have e:(scL k l).exit.getD i 0=k*l.exit.getD i 0:=zbq _ _ _
   rw[e]
   exact Rat.mul_pos hk h2
  ·refine Or.inr ⟨j,h3,?_,h5⟩
   rw[zmq,zbq]
   exact Rat.mul_pos hk h4
theorem zxb.uniq (h:zxb l) {x y:Nat→Rat} (he:∀i,i<l.start.length→sg l.start.length (fun j=>phA l i j*x j)=sg l.start.length (fun j=>phA l i j*y j)):∀i,i<l.start.length→x i=y i:=by
 have key:∀ {x y:Nat→Rat},(∀i,i<l.start.length→sg l.start.length (fun j=>phA l i j*x j)=sg l.start.length (fun j=>phA l i j*y j))→∀i,i<l.start.length→0≤x i-y i:=fun{x y} he i hi=>by
  refine h.nonneg (x:=fun j=>x j-y j) (b:=fun _=>0) (fun _ _=>Rat.le_refl) (fun i hi=> ?_) i hi
  have e:sg l.start.length (fun j=>phA l i j*(x j-y j))=sg l.start.length (fun j=>phA l i j*x j)+(-1)*sg l.start.length (fun j=>phA l i j*y j):=by
   rw[←zcb,←zvd]
   exact zma fun j _=>by grind
  rw[e,he i hi]
  grind
 intro i hi
 have h1:=key he i hi
 have h2:=key (fun i hi=>(he i hi).symm) i hi
 grind
theorem momX_sc (h:zxb l) (h':zxb (scL k l)):∀i,i<l.start.length→k*zpm (scL k l) 1 i=zpm l 1 i:=by
 refine h.uniq fun i hi=> ?_
 rw[h.mom_eq 0 i hi]
 have h1:=h'.mom_eq 0 i hi
 have e:(fun j=>phA l i j*(k*zpm (scL k l) 1 j))=fun j=>phA (scL k l) i j*zpm (scL k l) (0+1) j:=by
  funext j
  rw[phA_sc]
  show _=k*phA l i j*zpm (scL k l) 1 j
  grind
 rw[e]
 exact h1
theorem zhp (l:LQ) (n:Nat):zfo l n=sg l.start.length (fun i=>stQ l i*zpm l n i)*fq false (zem n) 1:=by
 unfold zfo zvn
 rw[Rat.zero_add]
 congr 1
 refine zma fun t ht=> ?_
 have g:(zib l.start.length (zpm l n)).getD t 0=zpm l n t:=by rw[List.getD_eq_getElem?_getD,List.getElem?_eq_getElem (by rw[zea];exact ht),Option.getD_some,ztb]
 rw[g]
 rfl
theorem momQ_sc (h:zxb l) (h':zxb (scL k l)):k*zfo (scL k l) 1=zfo l 1:=by
 rw[zhp,zhp]
 have e:k*(sg (scL k l).start.length (fun i=>stQ (scL k l) i*zpm (scL k l) 1 i)*fq false (zem 1) 1)=(k*sg l.start.length (fun i=>stQ l i*zpm (scL k l) 1 i))*fq false (zem 1) 1:=by
  show k*(sg l.start.length (fun i=>stQ l i*zpm (scL k l) 1 i)*fq false (zem 1) 1)=_
  grind
 rw[e]
 congr 1
 rw[←zcb]
 refine zma fun i hi=> ?_
 rw[←momX_sc h h' i hi]
 grind
end
section
variable {k:Rat} {a b:LQ}
theorem bfA_sc (r c:Nat):bfA (scL k a) (scL k b) r c=k*bfA a b r c:=by
 have e:(scL k b).start.length=b.start.length:=rfl
 unfold bfA bf2
 simp only[outQ_sc,rtQ_sc,e]
 split
 ·grind
 ·split
  ·grind
  ·split
   ·grind
   ·rw[Rat.mul_zero]
theorem bf_uniq (ha:zxb a) (hb:zxb b) {x y:Nat→Rat} (he:∀r,r<bfN a b→sg (bfN a b) (fun c=>bfA a b r c*x c)=sg (bfN a b) (fun c=>bfA a b r c*y c)):∀r,r<bfN a b→x r=y r:=by
 have key:∀ {x y:Nat→Rat},(∀r,r<bfN a b→sg (bfN a b) (fun c=>bfA a b r c*x c)=sg (bfN a b) (fun c=>bfA a b r c*y c))→∀r,r<bfN a b→0≤x r-y r:=fun{x y} he r hr=>by
  refine zwl ha hb (x:=fun c=>x c-y c) (y:=fun _=>0) (fun _ _=>Rat.le_refl) (fun r hr=> ?_) r hr
  have e:sg (bfN a b) (fun c=>bfA a b r c*(x c-y c))=sg (bfN a b) (fun c=>bfA a b r c*x c)+(-1)*sg (bfN a b) (fun c=>bfA a b r c*y c):=by
   rw[←zcb,←zvd]
   exact zma fun j _=>by grind
  rw[e,he r hr]
  grind
 intro r hr
 have h1:=key he r hr
 have h2:=key (fun i hi=>(he i hi).symm) r hr
 grind
theorem befX_sc (ha:zxb a) (hb:zxb b) (ha':zxb (scL k a)) (hb':zxb (scL k b)) (hk:0<k):∀r,r<bfN a b→zyg (scL k a) (scL k b) r=zyg a b r:=by
 refine bf_uniq ha hb fun r hr=> ?_
 rw[bf_eq ha hb r hr]
 have h1:=bf_eq ha' hb' r hr
 have e:(sg (bfN (scL k a) (scL k b)) fun c=>bfA (scL k a) (scL k b) r c*zyg (scL k a) (scL k b) c)=k*sg (bfN a b) (fun c=>bfA a b r c*zyg (scL k a) (scL k b) c):=by
  rw[←zcb]
  show sg (bfN a b) _=_
  exact zma fun c _=>by rw[bfA_sc];grind
 have e2:bfR (scL k a) (scL k b) r=k*bfR a b r:=exQ_sc _
 rw[e,e2]at h1
 generalize (sg (bfN a b) fun c=>bfA a b r c*zyg (scL k a) (scL k b) c)=X at *
 generalize bfR a b r=Y at *
 have hk0:k≠0:=fun e=>by rw[e]at hk;exact absurd hk (by decide+kernel)
 have e3:k*(X-Y)=0:=by grind
 rcases Rat.mul_eq_zero.1 e3 with h | h
 ·exact absurd h hk0
 ·grind
theorem befQ_sc (ha:zxb a) (hb:zxb b) (ha':zxb (scL k a)) (hb':zxb (scL k b)) (hk:0<k):befQ (scL k a) (scL k b)=befQ a b:=by
 rw[befQ_sg,befQ_sg]
 show sg (bfN a b) _=_
 refine zma fun c hc=> ?_
 rw[befX_sc ha hb ha' hb' hk c hc]
 rfl
end
section
variable {k n:Nat} {l a b:LQ}
theorem kf_over (hk:k<10):over 1 9 (fq false k 1):=by
 refine⟨(k:Int),?_,by simp;omega⟩
 unfold fq sgn
 simp
theorem sc_nums :∀k,k<10→∀x,x<6→∀y,y<8→zua (fq false k 1*fq false (x+1) (y+1)).num.natAbs≤32∧zua (fq false k 1*fq false (x+1) (y+1)).den≤32∧0≤fq false k 1*fq false (x+1) (y+1):=by decide+kernel
theorem tf_sc {q:Rat} (hk:k<10) (h:tfQ q∨q=0):zvg (fq false k 1*q):=by
 rcases h with⟨x,y,hx,hy,rfl⟩ | rfl
 ·obtain⟨h1,h2,h3⟩:=sc_nums k hk x hx y hy
  exact⟨h3,h1,h2⟩
 ·rw[Rat.mul_zero];exact zfi
theorem kf_pos (hk1:1≤k):0<fq false k 1:=by
 have e:fq false k 1=(k:Rat):=by unfold fq sgn;rw[if_neg (by decide),Rat.mkRat_one];first | exact Rat.intCast_natCast k | rfl | norm_cast
 rw[e]
 exact Rat.natCast_pos.2 hk1
theorem LT.scale (h:LT n n 0 l.start l.exit l.rates) (hn:1≤n) (hn4:n≤4) (hk1:1≤k) (hk:k<10):zxb (scL (fq false k 1) l):=by
 refine(h.law hn hn4).scale (kf_pos hk1) (fun q hq=> ?_) fun i hi q hq=> ?_
 ·obtain⟨j,hj,rfl⟩:=List.mem_iff_getElem.1 hq
  exact tf_sc hk ((h.ex j hj).imp id fun h=>h.1)
 ·obtain⟨h1,h2⟩:=h.rt i hi
  obtain⟨j,hj,rfl⟩:=List.mem_iff_getElem.1 hq
  exact tf_sc hk (h2 j hj).2.2
theorem SmL.scale {D B:Nat} (h:SmL D B l) (hk:k<10):SmL D (9*B) (scL (fq false k 1) l) where
 r:=fun i j hi hj=>by
  have h1:=over.mul (kf_over hk) (h.r i j hi hj)
  rw[rtQ_sc]
  rwa[Nat.one_mul]at h1
 e:=fun i hi=>by
  have h1:=over.mul (kf_over hk) (h.e i hi)
  rw[exQ_sc]
  rwa[Nat.one_mul]at h1
theorem start13 (h:zch 2 l) {i:Nat} (hi:i<l.start.length):over 8 (2^13) (stQ l i):=(h.start8 hi).mono (by decide)
theorem tape_mom (h:zch 2 l):MomP l 1 1∧MomP l 2 2:=zto (h.law (by decide)) h.sm (by decide) (by decide) (by decide) (by decide) (DS:=8) (by decide) (by decide) fun i hi=>start13 h hi
theorem zch.scale (h:zch 2 l) (hk1:1≤k) (hk:k<10):zxb (scL (fq false k 1) l):=by obtain⟨n,h1,h2,h3⟩:=h;exact h3.scale h1 (by omega) hk1 hk
theorem tape_mom_sc (h:zch 2 l) (hk1:1≤k) (hk:k<10):MomP (scL (fq false k 1) l) 1 1:=
 (zto (h.scale hk1 hk) (h.sm.scale hk) (by decide) (by decide) (by decide) (by decide) (DS:=8) (by decide) (by decide) fun i hi=>start13 h hi).1
theorem tape_bef_sc (ha:zch 2 a) (hb:zch 2 b) (hk1:1≤k) (hk:k<10):BefP (scL (fq false k 1) a) (scL (fq false k 1) b):=by
 have pa:=ha.scale hk1 hk
 have pb:=hb.scale hk1 hk
 have hN:bfN a b≤4:=Nat.mul_le_mul ha.len hb.len
 refine zyp pa pb (ha.sm.scale hk) (hb.sm.scale hk) (by decide) (by decide) (by decide) (by decide) hN (DS:=64) (by decide) (by decide) fun r hr=> ?_
 obtain⟨r1,r2⟩:=zjj pb hr
 exact(over.mul (ha.start8 r1) (hb.start8 r2)).mono (by decide)
theorem znq {f:Nat} (h:MomP l n f) (hf:f=zem n):fits (zfo l n):=by
 subst hf
 exact h.sca.fr
end
end Go.Proofs.Ytlpdkbmmbdfoiaa
