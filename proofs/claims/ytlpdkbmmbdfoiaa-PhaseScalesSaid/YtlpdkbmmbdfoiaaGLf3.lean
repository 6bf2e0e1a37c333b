/-
  Lifting a law: lists of bytes that came in. No law is named here.
-/
import Derived.Test.YtlpdkbmmbdfoiaaGOwR
import Derived.Test.YtlpdkbmmbdfoiaaGEl1
import Derived.Test.YtlpdkbmmbdfoiaaGMk1
import Derived.Test.YtlpdkbmmbdfoiaaRows
import Derived.WalkKit
import Derived.ProofKit
import Derived.OpenShut
import Derived.ChangeSlices
set_option linter.unusedVariables false
set_option linter.unusedSimpArgs false
namespace Go.Proofs.Ytlpdkbmmbdfoiaa
open Go.RowKit
def I8V (w:World) (v:Value) (l:List Int):Prop:=zhc w v (l.map (Value.int .i8))∧∀x∈l,-128≤x∧x≤127
theorem I8V.below {w w':World} {v:Value} {l:List Int} (h:I8V w v l) (hb:Below w.heap.size w w'):I8V w' v l:=⟨h.1.below hb,h.2⟩
end Go.Proofs.Ytlpdkbmmbdfoiaa
namespace Go.Proofs.Ytlpdkbmmbdfoiaa
open Go.ChangeShapes Go.WideShapes Go.ChangeAt Go.RowKit
section
variable {H:Type} {enc:TypeId×Value→H} {P:Program}
theorem zoh (hl:laidOutB P=true) {W W':World} (hb:Below W.heap.size W W'):∀ {ts:List TypeId} {vs:List Value} {ds:List (DataW H)} {ps:List MemPlace},(ts.all fun t=>P.readableRec t&&decide (t<P.types.size))=true→
 DataW.TrodAll enc P W 0 (fun _=>true) true ts vs ds ps→(∀x∈ps,x.block<W.heap.size)→DataW.TrodAll enc P W' 0 (fun b=>decide (b<W.heap.size)) true ts vs ds ps
 | [],vs,ds,ps,_,h,_=>by
   obtain⟨rfl,rfl,rfl⟩:=trodAll_nil h
   exact trodAll_mk0
 | t::ts,vs,ds,ps,hr,h,hlt=>by
   obtain⟨v,vs',d,ds',p,q,rfl,rfl,rfl,h1,h2⟩:=trodAll_cons h
   simp only[List.all_cons,Bool.and_eq_true,decide_eq_true_eq]at hr
   obtain⟨⟨r1,r2⟩,r3⟩:=hr
   exact trodAll_cons_mk (Below.trod hl r1 r2 h1 hb fun x hx=>hlt x (List.mem_append_left _ hx)) (zoh hl hb (ts:=ts) r3 h2 fun x hx=>hlt x (List.mem_append_right _ hx))
end
section
variable {H:Type} {enc:TypeId×Value→H}
set_option maxRecDepth 100000 in
theorem u8_came {W:World} {base:Nat} {v:Value} {d:DataW H} {p:List MemPlace} (hv:Value.okWide Try.prog W .any base 5 v) (h:DataW.Trod enc Try.prog W 0 (fun _=>true) true 5 v d p):∃x:Nat,v= .int .u8 x∧x<256:=by
 obtain⟨n,rfl,rfl,rfl,hwn⟩:=open_int Try.underlying5 hv h
 have hn:0≤n∧n<256:=by
  simp[Lit.wf,IntKind.min,IntKind.max,IntKind.signed,IntKind.bits]at hwn
  omega
 exact⟨n.toNat,by congr 1;omega,by omega⟩
end
theorem Try.ownK :ownKnob Try.prog.godebug=none:=by kernel_rfl
theorem Try.laidOut :laidOutB Try.prog=true:=by kernel_rfl
theorem Try.cellsU8 :Try.prog.cellsOf 5=1:=by kernel_rfl
def U8V (w:World) (v:Value) (l:List Nat):Prop:=zhc w v (bytes l)∧∀x∈l,x<256
section
variable {H:Type} {enc:TypeId×Value→H}
theorem bytes_in {W:World} {a:Addr} {len cap:Nat} {zs:List Int} (hl:len≤cap) (hm:cap≤maxLen) (hz:zs.length=cap) (hcell:∀i,i<zs.length→W.cell? (a.add i)=some (.int .u8 (zs.getD i 0))) (hwz:∀n∈zs,(Lit.int .u8 n).wf=true):
 U8V W (.slice (some a) len cap) ((zs.take len).map Int.toNat):=by
 have hb:∀n∈zs,0≤n∧n<256:=fun n hn=>by
  have:=hwz n hn
  simp[Lit.wf,IntKind.min,IntKind.max,IntKind.signed,IntKind.bits]at this
  omega
 refine⟨⟨⟨a,len,cap,rfl,hl,hm,fun e=>by cases e⟩,by simp[bytes,slen];omega,fun j hj=> ?_⟩,fun x hx=> ?_⟩
 ·have hj2:j<len:=by simp[bytes]at hj;omega
  have hj3:j<zs.length:=by omega
  have h1:=hcell j hj3
  have h2:=hb _ (List.getElem_mem hj3)
  have e1:zs.getD j 0=zs[j]:=by simp[List.getD,List.getElem?_eq_getElem hj3]
  rw[e1]at h1
  simp only[ptr,base,bytes,List.getElem_map,List.getElem_take]
  rw[h1]
  congr 2
  omega
 ·obtain⟨n,hn,rfl⟩:=List.mem_map.1 hx
  have:=hb n (List.mem_of_mem_take hn)
  omega
set_option maxRecDepth 100000 in
theorem u8s_came {W:World} {base:Nat} {v:Value} {d:DataW H} {p:List MemPlace} (hv:Value.okWide Try.prog W .any base 22 v) (h:DataW.Trod enc Try.prog W 0 (fun _=>true) true 22 v d p):∃l,U8V W v l:=by
 obtain⟨a,len,cap,rfl⟩:=okWide_slice Try.underlying22 hv
 obtain⟨fuel,hf⟩:=h
 rcases open_ints Try.underlying22 Try.underlying5 Try.cellsU8 hf with⟨hcs,hx⟩ | ⟨a,len',cap',zs,hcs,_,hl,hm,hz,hx,hcell,hwz⟩
 ·simp[Value.cells]at hcs
  obtain⟨rfl,rfl,rfl⟩:=hcs
  exact⟨[],⟨zgc.nil,rfl,fun j h=>by simp[bytes]at h⟩,fun x h=>by simp at h⟩
 ·simp[Value.cells]at hcs
  obtain⟨rfl,rfl,rfl⟩:=hcs
  simp only[if_true]at hz
  exact⟨_,bytes_in hl hm hz hcell hwz⟩
end
end Go.Proofs.Ytlpdkbmmbdfoiaa
