/-
  package lump: split.
-/
import Derived.Test.YtlpdkbmmbdfoiaaGreatLMath16
import Derived.Test.YtlpdkbmmbdfoiaaGreatLMath22
set_option linter.unusedVariables false
set_option linter.unusedSimpArgs false
namespace Go.Proofs.YtlpdkbmmbdfoiaaGreat
open Go.RowKit
theorem Tryz.infoCls :(Tryz.prog.info? 166).map (fun i=>(i.zero,i.size,i.bytes))=some (some (.agg #[.int .i64 0, .slice none 0 0]),2,32):=by kernel_rfl
theorem zbb.grown {w w':World} {v r:Value} {q:List Rat} (h:zbb w r q) (hg:w.grownBy w' v.ownBlock) (hn:zlb w v) (hne:v.ownBlock≠some (base r).block):zbb w' r q:=
 ⟨h.sl,h.len,fun j hj=>by
  obtain⟨a,b,e1,e2,e3,e4,e5⟩:=h.at' j hj
  have hc:∀k u,w.cell? (ptr r k)=some u→w'.cell? (ptr r k)=some u:=fun k u hu=>hg.cell hu (by rw[zsa];exact fun e=>hne e.symm)
  exact⟨a,b,hc _ _ e1,hc _ _ e2,hc _ _ e3,e4.grown hg hn,e5.grown hg hn⟩⟩
def zdx (w:World) (eF eC:TypeId) (B:Nat) (v:Value) (cl:List (Int×List Rat)):Prop:=
 ∃xs,zlc w eC B 2 v cl.length xs∧∀ (j:Nat) (h:j<cl.length),∃ (g n:Nat),xs[j*2]? =some (.int .i64 cl[j].1)∧xs[j*2+1]? =some (.slice (some ⟨g,0,none⟩) n n)∧zqb w eF B (.slice (some ⟨g,0,none⟩) n n) n∧zbb w (.slice (some ⟨g,0,none⟩) n n) cl[j].2
section
variable {w w':World} {eF eC:TypeId} {B:Nat} {v:Value} {cl:List (Int×List Rat)}
theorem zdx.nil (w:World) (eF eC:TypeId) (B:Nat):zdx w eF eC B (.slice none 0 0) []:=⟨[],zlc.nil _ _ _ _,fun j h=>by simp at h⟩
theorem zdx.below (h:zdx w eF eC B v cl) (hb:Below w.heap.size w w'):zdx w' eF eC B v cl:=by
 obtain⟨xs,h1,h2⟩:=h
 exact⟨xs,h1.below hb,fun j hj=>by obtain⟨g,n,e1,e2,e3,e4⟩:=h2 j hj;exact⟨g,n,e1,e2,e3.below hb,e4.below hb⟩⟩
theorem zdx.reads (h:zdx w eF eC B v cl):ClsV w v cl:=by
 obtain⟨xs,h1,h2⟩:=h
 refine⟨h1.sl,h1.len,fun j hj=> ?_⟩
 obtain⟨g,n,e1,e2,e3,e4⟩:=h2 j hj
 have hc:∀i u,xs[i]? =some u→w.cell? (ptr v i)=some u:=fun i u hi=>by
  obtain⟨h6,h7⟩:=List.getElem?_eq_some_iff.1 hi
  rw[h1.cell i h6,h7]
 exact⟨_,hc _ _ e1,hc _ _ e2,e4⟩
theorem zdx.over (h:zdx w eF eC B v cl) {p:Addr} {x:Value} (hp:∀e cur fz,w.heap[p.block]? =some (.cells cur e fz)→e≠eF∧e≠eC) (hc:w.cell? p=some x) (hx:∀z,x≠ .int .u32 z) (u:Value):zdx (w.setCell p u) eF eC B v cl:=by
 obtain⟨xs,h1,h2⟩:=h
 refine⟨xs,h1.over ?_ u,fun j hj=> ?_⟩
 ·cases ho:v.ownBlock with
  | none=>exact Or.inl rfl
  | some g=>
    refine Or.inr (fun e=> ?_)
    injection e with e
    subst e
    obtain⟨cc,fz,hh⟩:=Lib.ownsRow_kind h1.own _ ho
    exact(hp _ _ _ hh).2 rfl
 ·obtain⟨g,n,e1,e2,e3,e4⟩:=h2 j hj
  have hne:p.block≠g:=fun e=>by
   obtain⟨g',cs,e5,e6,_⟩:=e3
   obtain⟨cc,fz,hh⟩:=Lib.ownsRow_kind e6 g rfl
   rw[←e]at hh
   exact(hp _ _ _ hh).1 rfl
  exact⟨g,n,e1,e2,e3.over hne u,e4.over hne hc hx⟩
theorem zdx.snoc {k:Nat} {b:Int} {s:List Rat} {g n:Nat} {v':Value} {xs:List Value} (h:zdx w eF eC B v cl) (hxs:zlc w eC B 2 v cl.length xs∧∀ (j:Nat) (h:j<cl.length),∃ (g n:Nat),xs[j*2]? =some (.int .i64 cl[j].1)∧xs[j*2+1]? =some (.slice (some ⟨g,0,none⟩) n n)∧zqb w eF B (.slice (some ⟨g,0,none⟩) n n) n∧zbb w (.slice (some ⟨g,0,none⟩) n n) cl[j].2)
 (hfr:zqb w eF B (.slice (some ⟨g,0,none⟩) n n) n) (hs:zbb w (.slice (some ⟨g,0,none⟩) n n) s) (hv:zlc w' eC B 2 v' (cl.length+1) (xs++ [.int .i64 b, .slice (some ⟨g,0,none⟩) n n])) (hg:w.grownBy w' v.ownBlock) (hF:eF≠eC):zdx w' eF eC B v' (cl++ [(b,s)]):=by
 obtain⟨h1,h2⟩:=hxs
 have hl:xs.length=cl.length*2:=h1.clen
 have key:∀ (g' n':Nat) (q:List Rat),zqb w eF B (.slice (some ⟨g',0,none⟩) n' n') n'→zbb w (.slice (some ⟨g',0,none⟩) n' n') q→zqb w' eF B (.slice (some ⟨g',0,none⟩) n' n') n'∧zbb w' (.slice (some ⟨g',0,none⟩) n' n') q:=fun g' n' q f1 f2=>by
  have hne:v.ownBlock≠some g':=fun e=>by
   obtain⟨gg,cs,e5,e6,_⟩:=f1
   obtain⟨cc,fz,hh⟩:=Lib.ownsRow_kind e6 g' rfl
   obtain⟨cc2,fz2,hh2⟩:=Lib.ownsRow_kind h1.own g' e
   rw[hh]at hh2
   injection hh2 with hh2
   injection hh2 with _ hh2
   exact hF hh2
  refine⟨?_,f2.grown hg h1.nl hne⟩
  obtain⟨gg,cs,e5,e6,e7⟩:=f1
  exact⟨gg,cs,e5,World.ownsRow.kept e6 hg (Or.inr (fun e=>hne e.symm)),e7⟩
 refine⟨_,by rw[List.length_append];exact hv,fun j hj=> ?_⟩
 rcases Nat.lt_or_ge j cl.length with h3 | h3
 ·obtain⟨g',n',e1,e2,e3,e4⟩:=h2 j h3
  rw[List.getElem_append_left h3]
  exact⟨g',n',by rw[List.getElem?_append_left (by omega)];exact e1,by rw[List.getElem?_append_left (by omega)];exact e2,key _ _ _ e3 e4⟩
 ·obtain rfl:j=cl.length:=by simp at hj;omega
  have e0:(cl++ [(b,s)])[cl.length]'hj=(b,s):=by simp
  rw[e0,←hl]
  exact⟨g,n,by rw[List.getElem?_append_right (Nat.le_refl _)];simp,by rw[List.getElem?_append_right (by omega)];simp,key _ _ _ hfr hs⟩
end
theorem append1_cls {P:Program} (t e eF:TypeId) (i:TypeInfo) (ht:P.underlying t=some (.slice e)) (hi:P.info? e=some i) (hz:i.zero=some (.agg #[.int .i64 0, .slice none 0 0])) (hsize:i.size=2) (hby:i.bytes=32) (hF:eF≠e)
 (w0:World) {ops:Array Oper} {rest:List Oper} {o:Oper} {a:Act} {Q:Exit→Act→World→Prop} (hgd:o.guard=none) (s x:Operand)
 (ho:o.op= .call { callee:= .builtin .append,args:=#[s,x],argTypes:=#[t,t] }) (B:Nat) (e':TypeId)
 (v:Value) (cl:List (Int×List Rat)) (hs:a.eval s=v) (hown:zdx w0 eF e B v cl) (b:Int) (q:List Rat) (g n:Nat) (hfr:zqb w0 eF B (.slice (some ⟨g,0,none⟩) n n) n) (hq:zbb w0 (.slice (some ⟨g,0,none⟩) n n) q)
 (hxe:a.eval x= .slice (some ⟨w0.heap.size,0,none⟩) 1 1) (hn:cl.length≤1000) (hbase:B≤w0.heap.size)
 (h:∀v' w',zdx w' eF e B v' (cl++ [(b,q)])→w0.grownBy w' v.ownBlock→(∀k,v.ownBlock=some k→B≤k)→(∀k,v.ownBlock=some k→∃c fz,w0.heap[k]? =some (.cells c e fz))→zgc v'→wpList P ops Q rest (a.put o.dst v') w'):
 wpList P ops Q (o::rest) a (w0.alloc (.cells #[.int .i64 b, .slice (some ⟨g,0,none⟩) n n] e')):=by
 obtain⟨xs,h1,h2⟩:=id hown
 refine zwf w0 hgd s x t ho B e e' i _ 2 32 ht hi hz hsize hby rfl (by decide) (fun c hc z=>by
  have hc2:c∈ [Value.int .i64 0, .slice none 0 0]:=hc
  simp at hc2;rcases hc2 with rfl | rfl<;>simp) v cl.length xs hs h1 #[.int .i64 b, .slice (some ⟨g,0,none⟩) n n] rfl hxe
  (fun u hu=>by simp at hu;rcases hu with rfl | rfl<;>rfl) (fun u hu z=>by simp at hu;rcases hu with rfl | rfl<;>simp) (by simp[maxLen];omega) (by omega) hbase ?_
 intro v' w' k1 k2 k3
 exact h v' w' (hown.snoc (k:=0) ⟨h1,h2⟩ hfr hq k1 k2 hF) k2 (fun k hk=>(h1.block k hk).1) (Lib.ownsRow_kind h1.own) k1.sl
end Go.Proofs.YtlpdkbmmbdfoiaaGreat
