/-
  ChainSteps: for every input the law returns true, and the input reads as it did. No condition.
-/
import Derived.Test.YtlpdkbmmbdfoiaaGreatHGn
import Derived.Test.YtlpdkbmmbdfoiaaGreatHSz1
import Derived.Test.YtlpdkbmmbdfoiaaGreatHHe0
import Derived.Test.YtlpdkbmmbdfoiaaGreatHCs7
import Derived.Test.YtlpdkbmmbdfoiaaGreatRows
import Derived.WalkKit
import Derived.ProofKit
import Derived.OpenShut
import Derived.ChangeSlices
import Derived.SizedLaws
import Derived.Deep.Slices
import Derived.Deep.Strs
import Derived.Deep.Grids
set_option linter.unusedVariables false
set_option linter.unusedSimpArgs false
namespace Go.Proofs.YtlpdkbmmbdfoiaaGreat
open Go.ChangeShapes Go.WideShapes Go.ChangeAt Go.RowKit
section
variable {H:Type} {enc:TypeId×Value→H} {P:Program}
theorem zoh (hl:laidOutB P=true) {W W':World} (hb:Below W.heap.size W W'):∀ {ts:List TypeId} {vs:List Value} {ds:List (DataW H)} {ps:List MemPlace},(ts.all fun t=>P.readableRec t&&decide (t<P.types.size))=true→
 DataW.TrodAll enc P W 0 (fun _=>true) true ts vs ds ps→(∀x∈ps,x.block<W.heap.size)→DataW.TrodAll enc P W' 0 (fun b=>decide (b<W.heap.size)) true ts vs ds ps
 | [],vs,ds,ps,_,h,_=>by
   obtain⟨rfl,rfl,rfl⟩:=trodAll_nil h
   exact trodAll_mk0
 | t::ts,vs,ds,ps,hr,h,hlt=>by
   obtain⟨v,vs',d,ds',p,q,rfl,rfl,rfl,h1,h2⟩:=trodAll_cons h
   simp only[List.all_cons,Bool.and_eq_true,decide_eq_true_eq]at hr
   obtain⟨⟨r1,r2⟩,r3⟩:=hr
   exact trodAll_cons_mk (Below.trod hl r1 r2 h1 hb fun x hx=>hlt x (List.mem_append_left _ hx)) (zoh hl hb (ts:=ts) r3 h2 fun x hx=>hlt x (List.mem_append_right _ hx))
end
section
variable {H:Type} {enc:TypeId×Value→H}
end
theorem Tryz.ownK :ownKnob Tryz.prog.godebug=none:=by kernel_rfl
theorem Tryz.laidOut :laidOutB Tryz.prog=true:=by kernel_rfl
theorem Tryz.cellsU8 :Tryz.prog.cellsOf 5=1:=by kernel_rfl
def U8V (w:World) (v:Value) (l:List Nat):Prop:=zhc w v (bytes l)∧∀x∈l,x<256
section
variable {H:Type} {enc:TypeId×Value→H}
theorem bytes_in {W:World} {a:Addr} {len cap:Nat} {zs:List Int} (hl:len≤cap) (hm:cap≤maxLen) (hz:zs.length=cap) (hcell:∀i,i<zs.length→W.cell? (a.add i)=some (.int .u8 (zs.getD i 0))) (hwz:∀n∈zs,(Lit.int .u8 n).wf=true):
 U8V W (.slice (some a) len cap) ((zs.take len).map Int.toNat):=by
 have hb:∀n∈zs,0≤n∧n<256:=fun n hn=>by
  have:=hwz n hn
  simp[Lit.wf,IntKind.min,IntKind.max,IntKind.signed,IntKind.bits]at this
  omega
 refine⟨⟨⟨a,len,cap,rfl,hl,hm,fun e=>by cases e⟩,by simp[bytes,slen];omega,fun j hj=> ?_⟩,fun x hx=> ?_⟩
 ·have hj2:j<len:=by simp[bytes]at hj;omega
  have hj3:j<zs.length:=by omega
  have h1:=hcell j hj3
  have h2:=hb _ (List.getElem_mem hj3)
  have e1:zs.getD j 0=zs[j]:=by simp[List.getD,List.getElem?_eq_getElem hj3]
  rw[e1]at h1
  simp only[ptr,base,bytes,List.getElem_map,List.getElem_take]
  rw[h1]
  congr 2
  omega
 ·obtain⟨n,hn,rfl⟩:=List.mem_map.1 hx
  have:=hb n (List.mem_of_mem_take hn)
  omega
set_option maxRecDepth 100000 in
theorem u8s_came {W:World} {base:Nat} {v:Value} {d:DataW H} {p:List MemPlace} (hv:Value.okWide Tryz.prog W .any base 22 v) (h:DataW.Trod enc Tryz.prog W 0 (fun _=>true) true 22 v d p):∃l,U8V W v l:=by
 obtain⟨a,len,cap,rfl⟩:=okWide_slice Tryz.underlying22 hv
 obtain⟨fuel,hf⟩:=h
 rcases open_ints Tryz.underlying22 Tryz.underlying5 Tryz.cellsU8 hf with⟨hcs,hx⟩ | ⟨a,len',cap',zs,hcs,_,hl,hm,hz,hx,hcell,hwz⟩
 ·simp[Value.cells]at hcs
  obtain⟨rfl,rfl,rfl⟩:=hcs
  exact⟨[],⟨zgc.nil,rfl,fun j h=>by simp[bytes]at h⟩,fun x h=>by simp at h⟩
 ·simp[Value.cells]at hcs
  obtain⟨rfl,rfl,rfl⟩:=hcs
  simp only[if_true]at hz
  exact⟨_,bytes_in hl hm hz hcell hwz⟩
end
end Go.Proofs.YtlpdkbmmbdfoiaaGreat
namespace Go.Proofs.YtlpdkbmmbdfoiaaGreat
open Go.ChangeShapes Go.WideShapes Go.ChangeAt Go.RowKit Go.Deep
section
variable {H:Type} {enc:TypeId×Value→H} {W:World}
theorem Tryz.cellsU32 :Tryz.prog.cellsOf 142=1:=by kernel_rfl
theorem Tryz.cellsFrac :Tryz.prog.cellsOf 38=3:=by kernel_rfl
theorem Tryz.cellsNat :Tryz.prog.cellsOf 36=1:=by kernel_rfl
theorem Tryz.cellsBool :Tryz.prog.cellsOf 4=1:=by kernel_rfl
theorem nat_in0 {fuel:Nat} {cs:List Value} {x:DataW H×List MemPlace} (h:DataW.trod enc Tryz.prog W 0 (fun _=>true) true fuel 36 cs=some x):
 ∃v l,cs= [v]∧zfc W v l:=by
 rcases open_ints Tryz.underlying36 Tryz.underlying142 Tryz.cellsU32 h with⟨rfl,rfl⟩ | ⟨a,len,cap,zs,rfl,_,hl,hm,hz,rfl,hcell,hwz⟩
 ·exact⟨_,[],rfl,zfc.nil W⟩
 ·simp only[if_true]at hz
  have hb:∀n∈zs,0≤n∧n<4294967296:=fun n hn=>by
   have:=hwz n hn
   simp[Lit.wf,IntKind.min,IntKind.max,IntKind.signed,IntKind.bits]at this
   omega
  refine⟨_,(zs.take len).map Int.toNat,rfl,⟨⟨a,len,cap,rfl,hl,hm,fun e=>by cases e⟩,by simp[slen];omega,fun j hj=> ?_,fun x hx=> ?_⟩⟩
  ·have hj2:j<len:=by simp at hj;omega
   have hj3:j<zs.length:=by omega
   have h1:=hcell j hj3
   have h2:=hb _ (List.getElem_mem hj3)
   have e1:zs.getD j 0=zs[j]:=by simp[List.getD,List.getElem?_eq_getElem hj3]
   rw[e1]at h1
   simp only[ptr,base,List.getElem_map,List.getElem_take]
   rw[h1]
   congr 2
   omega
  ·obtain⟨n,hn,rfl⟩:=List.mem_map.1 hx
   have:=hb n (List.mem_of_mem_take hn)
   omega
set_option maxRecDepth 100000 in
/-- A fraction's three cells. -/
theorem frac_in0 {fuel:Nat} {cs:List Value} {x:DataW H×List MemPlace} (h:DataW.trod enc Tryz.prog W 0 (fun _=>true) true fuel 38 cs=some x):
 ∃ (y:RFL) (a b:Value),cs= [.bool y.neg,a,b]∧zfc W a y.a∧zfc W b y.b:=by
 obtain⟨y0,y1,y2,n,rfl,hlen,h0,h1,h2⟩:=trod_struct3 Tryz.underlying38 h
 rw[Tryz.cellsFrac]at hlen
 match cs,hlen with
 | [c0,c1,c2],_=>
   obtain⟨b,e0,_⟩:=DataW.trod_bool Tryz.underlying4 h0
   obtain⟨v1,l1,e1,n1⟩:=nat_in0 h1
   obtain⟨v2,l2,e2,n2⟩:=nat_in0 h2
   rw[Tryz.cellsBool]at e0
   rw[Tryz.cellsNat]at e1 e2
   simp at e0 e1 e2
   subst e0 e1 e2
   exact⟨⟨b,l1,l2⟩,_,_,rfl,n1,n2⟩
instance : Inhabited RFL:=⟨⟨false,[],[]⟩⟩
theorem fracs_in0 {fuel:Nat} {cs:List Value} {x:DataW H×List MemPlace} (h:DataW.trod enc Tryz.prog W 0 (fun _=>true) true fuel 25 cs=some x):
 ∃v l,cs= [v]∧zvs W v l:=by
 rcases open_slice Tryz.underlying25 h with⟨rfl,rfl⟩ | ⟨a,len,cap,m,n,D,Pl,rfl,_,hl,hm,hmm,rfl,hx⟩
 ·exact⟨_,[],rfl,⟨zgc.nil,rfl,fun j h=>by simp at h⟩⟩
 ·simp only[if_true]at hmm
  subst hmm
  obtain⟨Y,hY⟩:=choose_lt (α:=RFL) (n:=len) (p:=fun i y=>zyt W (.slice (some a) len m) (i*3) y) (fun i hi=>by
   obtain⟨cs',e1,e2⟩:=hx i (by omega)
   obtain⟨y,va,vb,rfl,n1,n2⟩:=frac_in0 e2
   rw[Tryz.cellsFrac]at e1
   have hc:=(World.cells?_some e1).2.2
   refine⟨y,va,vb,?_,?_,?_,n1,n2⟩
   ·simpa [ptr,base,add_add]using hc 0 (by omega)
   ·simpa [ptr,base,Go.Deep.add_add]using hc 1 (by omega)
   ·simpa [ptr,base,Go.Deep.add_add]using hc 2 (by omega))
  refine⟨_,(List.range len).map Y,rfl,⟨⟨a,len,m,rfl,hl,hm,fun e=>by cases e⟩,by simp[slen],fun j hj=> ?_⟩⟩
  simp only[List.getElem_map,List.getElem_range]
  exact hY j (by simpa using hj)
end
end Go.Proofs.YtlpdkbmmbdfoiaaGreat
namespace Go.Proofs.YtlpdkbmmbdfoiaaGreat
open Go.ChangeShapes Go.WideShapes Go.ChangeAt Go.RowKit
section
variable {H:Type} {enc:TypeId×Value→H}
set_option maxRecDepth 100000 in
theorem int_came3 {W:World} {base:Nat} {v:Value} {d:DataW H} {p:List MemPlace} (hv:Value.okWide Tryz.prog W .any base 3 v) (h:DataW.Trod enc Tryz.prog W 0 (fun _=>true) true 3 v d p):∃x:Int,v= .int .i64 x:=by
 obtain⟨n,rfl,rfl,rfl,hwn⟩:=open_int Tryz.underlying3 hv h
 exact⟨n,rfl⟩
set_option maxRecDepth 100000 in
theorem frac_came {W:World} {base:Nat} {v:Value} {d:DataW H} {p:List MemPlace} (hv:Value.okWide Tryz.prog W .any base 38 v) (h:DataW.Trod enc Tryz.prog W 0 (fun _=>true) true 38 v d p):∃ (y:RFL) (a b:Value),v= .agg #[.bool y.neg,a,b]∧zfc W a y.a∧zfc W b y.b:=by
 obtain⟨cs0,rfl,_⟩:=okWide_struct Tryz.underlying38 hv
 obtain⟨fuel,hf⟩:=h
 obtain⟨y,a,b,e,h1,h2⟩:=frac_in0 hf
 refine⟨y,a,b,?_,h1,h2⟩
 simp[Value.cells]at e
 have e2:cs0=#[.bool y.neg,a,b]:=by cases cs0;simp at e;simp[e]
 rw[e2]
end
section
variable {H:Type} {enc:TypeId×Value→H}
set_option maxRecDepth 100000 in
theorem fracs_came3 {W:World} {base:Nat} {v:Value} {d:DataW H} {p:List MemPlace} (hv:Value.okWide Tryz.prog W .any base 25 v) (h:DataW.Trod enc Tryz.prog W 0 (fun _=>true) true 25 v d p):∃l,zvs W v l:=by
 obtain⟨a2,len2,cap2,rfl⟩:=okWide_slice Tryz.underlying25 hv
 obtain⟨fuel,hf⟩:=h
 obtain⟨vv,l,ev,h1⟩:=fracs_in0 hf
 simp[Value.cells]at ev
 subst ev
 exact⟨l,h1⟩
end
set_option maxRecDepth 100000 in
theorem zss (os:Os) (started:os.Started) (H:Type) (enc:TypeId×Value→H):
 ReturnsInHanded {} Tryz.checked os 11 .any (Rows.chainStepsSpec.pre6 enc Tryz.prog Tryz.f11 Rows.chainStepsRow.domain false) (Rows.chainStepsSpec.post enc Tryz.prog Tryz.f11 false true false false):=by
 refine returnsInHanded_of_change (C:=Tryz.checked) Tryz.ownK started (by kernel_rfl) Tryz.func11
  (ChangeSpec.witness6 (enc:=enc) (C:=Tryz.checked) false ⟨#[],#[.slice none 0 0, .agg #[.bool false, .slice none 0 0, .slice none 0 0], .slice none 0 0, .int .i64 0],[]⟩ 8 (by kernel_rfl) (by kernel_rfl) (by kernel_rfl) (by kernel_rfl)) ?_
 intro W base args ds gs before hval0 hW hcnd _
 have hval:∀ (j:Nat) t v,Tryz.f11.params[j]? =some t→args[j]? =some v→Value.okWide Tryz.prog W .any base t v:=hval0
 have hW':=hW
 obtain⟨p,q,hA0,hV,rfl,hfz,hnd⟩:=hW
 have hA:DataW.TrodAll enc Tryz.prog W 0 (fun _=>true) true Tryz.f11.params.toList args.toList ds p:=hA0
 rw[Tryz.params11]at hA hval
 obtain⟨rfl,rfl⟩:=trodVars_none hV
 simp only[List.append_nil]at hW'
 have hback:=fun(W':World) (hb:Below W.heap.size W W')=>zoh (enc:=enc) Tryz.laidOut hb (by kernel_rfl) hA hW'.lt
 obtain⟨v0,vs0,d0,ds0,p0,q0,e0,rfl,_,h0,hA⟩:=trodAll_cons hA
 obtain⟨v1,vs1,d1,ds1,p1,q1,rfl,rfl,_,h1,hA⟩:=trodAll_cons hA
 obtain⟨v2,vs2,d2,ds2,p2,q2,rfl,rfl,_,h2,hA⟩:=trodAll_cons hA
 obtain⟨v3,vs3,d3,ds3,p3,q3,rfl,rfl,_,h3,hA⟩:=trodAll_cons hA
 obtain⟨rfl,rfl,_⟩:=trodAll_nil hA
 obtain rfl:args=#[v0,v1,v2,v3]:=by cases args;simp_all
 obtain⟨l0,g0⟩:=u8s_came (hval 0 22 v0 rfl rfl) h0
 obtain⟨y,a,b,rfl,g1,g2⟩:=frac_came (hval 1 38 v1 rfl rfl) h1
 obtain⟨l2,g3⟩:=fracs_came3 (hval 2 25 v2 rfl rfl) h2
 obtain⟨x3,rfl⟩:=int_came3 (hval 3 3 v3 rfl rfl) h3
 refine(steps_any _ l0 y a b _ l2 x3 W g0.1 g0.2 g1 g2 g3).mono fun e W' ⟨he,hnx⟩=> ?_
 subst he
 refine⟨_,rfl,_,_,_,[],p,[],hW',?_,hback _ hnx,?_,hnx.frame _,fun h=>by cases h⟩
 ·exact trodAll_mk1 (shut_bool Tryz.underlying4 _)
 ·rfl
theorem chainSteps_holds :Rows.ChainStepsSaid:=
 OpenClaim.holds_of_wide 11 Tryz.f11 rfl rfl rfl rfl rfl rfl rfl ⟨rfl,rfl,rfl,rfl,rfl⟩ rfl rfl rfl rfl rfl (by kernel_rfl) Tryz.func11 (by kernel_rfl)
  (of_decide_eq_true (by kernel_rfl)) (by unfold Func.isWrapper;first | (rw[if_pos (by decide+kernel)];kernel_rfl) | (rw[if_neg (by decide+kernel)];exact⟨rfl,rfl⟩))
  (fun os started H enc _=>zss os started H enc)
end Go.Proofs.YtlpdkbmmbdfoiaaGreat
