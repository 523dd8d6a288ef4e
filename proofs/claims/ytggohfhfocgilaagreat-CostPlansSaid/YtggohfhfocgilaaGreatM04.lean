/- Contracts of functions and lemmas for costPlans_holds, part 4. -/
import Derived.ChangeArms
import Derived.Carry
import Derived.WideShapes
import Derived.SizedLaws
import Derived.Laws.StructEq
import Derived.Shelf.Sort.Plain
import Derived.Shelf.Slices.In.SortNone
import Derived.Test.YtggohfhfocgilaaGreatProg
import Derived.Test.YtggohfhfocgilaaGreatM03
set_option maxHeartbeats 8000000
set_option maxRecDepth 100000
set_option linter.all false
namespace Go.Proofs.YtggohfhfocgilaaGreatAw
open Go.RowKit Go.WideShapes
inductive Sh where
 |int (k:IntKind)
 |bool
 |str
 |slice (b:Nat) (es:List Sh)
mutual
inductive Fits:Sh→D→Prop
 |int (k:IntKind) (n:Int) (h:(Lit.int k n).wf=true):Fits (.int k) (.v (.int k n))
 |bool (b:Bool):Fits .bool (.v (.bool b))
 |str (s:ByteArray) (h:s.size≤reachBytes):Fits .str (.v (.string s))
 |slice (b:Nat) (es:List Sh) (l:List (List D)) (h1:l.length* b≤reachBytes) (h2:l.length≤maxLen) (h:∀e∈l,aU es e):Fits (.slice b es) (.list false l)
inductive aU:List Sh→List D→Prop
 |nil:aU [] []
 |cons {s:Sh} {x:D} {ss:List Sh} {xs:List D} (h:Fits s x) (t:aU ss xs):aU (s::ss) (x::xs)
end
def iS(P:Program)(g:TypeId→Option (List Sh)):Nat→List Field→Option (List Sh)
 |_,[]=>some []
 |off,f::fs=>if f.offset=off then(match g f.type with|some l=>if l.length=P.cellsOf f.type then(iS P g (off+l.length) fs).map (l++·)else none|none=>none)else none
def nb(P:Program):Nat→TypeId→Option (List Sh)
 |0,_=>none
 |n+1,t=>match P.underlying t with
  |some .bool=>some [.bool]
  |some (.int k)=>some [.int k]
  |some .string=>some [.str]
  |some (.slice e)=>(match nb P n e with|some es=>if es.length=P.cellsOf e then some [.slice (P.bytesOf e) es]else none|none=>none)
  |some (.struct fs)=>(match iS P (nb P n) 0 fs.toList with|some l=>if l.length=P.cellsOf t then some l else none|none=>none)
  |some (.array m e)=>(match nb P n e with|some es=>if es.length=P.cellsOf e∧P.cellsOf t=m* es.length then some ((List.replicate m es).flatten)else none|none=>none)
  |_=>none
def Live(w:World):Addr→Prop:=fun a=>∃v,w.cell? a=some v
def yL(w:World)(ds:List D)(cs:List Value):Prop:=ds.length=cs.length∧∀i (h1:i<ds.length) (h2:i<cs.length),RD (Live w) w (ds[i]) (cs[i])
theorem yL.nil{w:World}:yL w [] []:=⟨rfl,fun i h=>by simp at h⟩
theorem yL.one{w:World}{d:D}{c:Value}(h:RD (Live w) w d c):yL w [d] [c]:=⟨rfl,fun i h1 h2=>by
 simp only[List.length_singleton]at h1
 have:i=0:=by omega
 subst this;exact h⟩
theorem yL.append{w:World}{ds es:List D}{cs bs:List Value}(h:yL w ds cs)(g:yL w es bs):yL w (ds++es) (cs++bs):=by
 refine⟨by simp[h.1,g.1],fun i h1 h2=>?_⟩
 by_cases hi:i<ds.length
 ·rw[List.getElem_append_left hi,List.getElem_append_left (by rw[←h.1];exact hi)]
  exact h.2 i _ _
 ·simp only[List.length_append]at h1
  rw[List.getElem_append_right (by omega),List.getElem_append_right (by rw[←h.1];omega)]
  have:=g.2 (i-ds.length) (by omega) (by rw[←g.1];omega)
  simpa[h.1]using this
theorem aU.append:∀{ss ts:List Sh} {xs ys:List D},aU ss xs→aU ts ys→aU (ss++ts) (xs++ys)
 |_,_,_,_,.nil,h=>h
 |_,_,_,_,.cons h t,g=> .cons h (t.append g)
theorem aU.len:∀{ss:List Sh} {xs:List D},aU ss xs→xs.length=ss.length
 |_,_,.nil=>rfl
 |_,_,.cons _ t=>by simp[t.len]
theorem l9{α:Type}(p:Nat→α→Prop):∀n,(∀i,i<n→∃y,p i y)→∃l:List α,l.length=n∧∀i (h:i<l.length),p i l[i]
 |0,_=>⟨[],rfl,fun i h=>by simp at h⟩
 |n+1,h=>by
  obtain⟨l,hl,hp⟩:=l9 p n fun i hi=>h i (by omega)
  obtain⟨y,hy⟩:=h n (by omega)
  refine⟨l++[y],by simp[hl],fun i hi=>?_⟩
  by_cases e:i<l.length
  ·rw[List.getElem_append_left e];exact hp i e
  ·simp at hi
   have:i=n:=by omega
   subst this
   rw[List.getElem_append_right (by omega)]
   simpa[hl]using hy
theorem yK{w:World}{a:Addr}{k:Nat}{cs:List Value}(h:w.cells? 0 a k=some cs):cs.length=k∧∀j (hj:j<cs.length),w.cell? (a.add j)=some cs[j]:=by
 unfold World.cells? at h
 rw[if_pos (Nat.zero_le _)]at h
 have hl:=mapM_some_length h
 rw[List.length_range]at hl
 refine⟨hl,fun j hj=>?_⟩
 have:=mapM_some_get h j j (by rw[List.getElem?_range (by omega)])
 rw[this]
 simp
section
variable {H:Type} {enc:TypeId×Value→H} {P:Program} {w:World}
theorem jR{g:TypeId→Option (List Sh)}:∀(fs:List Field) (off:Nat) (shs:List Sh) (cs:List Value),iS P g off fs=some shs→cs.length=off+shs.length→
  (∀f∈fs,∀l,g f.type=some l→∃ds,aU l ds∧yL w ds ((cs.drop f.offset).take (P.cellsOf f.type)))→∃ds,aU shs ds∧yL w ds (cs.drop off)
 |[],off,shs,cs,h,hl,_=>by
  simp only[iS]at h
  cases h
  refine⟨[],.nil,?_⟩
  rw[List.drop_of_length_le (by simp at hl;omega)]
  exact .nil
 |f::fs,off,shs,cs,h,hl,hf=>by
  simp only[iS]at h
  split at h
  ·rename_i ho
   split at h
   ·rename_i l hgl
    split at h
    ·rename_i hk
     obtain⟨rest,hr,rfl⟩:=Option.map_eq_some_iff.1 h
     simp only[List.length_append]at hl
     obtain⟨ds,h1,h2⟩:=hf f (by simp) l hgl
     obtain⟨es,h3,h4⟩:=jR fs (off+l.length) rest cs hr (by omega) fun f' hf'=>hf f' (by simp[hf'])
     refine⟨ds++es,h1.append h3,?_⟩
     rw[ho,←hk]at h2
     have:=h2.append h4
     rwa[←List.drop_drop,List.take_append_drop]at this
    ·cases h
   ·cases h
  ·cases h
theorem fo:∀{ds:List (DataW H)} {e:TypeId} {d:DataW H} {n:Nat},d∈ds→n∈d.weights P e→n∈DataW.weightsAll P e ds
 |d'::ds,e,d,n,hd,hn=>by
  simp only[DataW.weightsAll,List.mem_append]
  rcases List.mem_cons.1 hd with rfl|hd
  ·exact .inl hn
  ·exact .inr (fo hd hn)
theorem trod_good:∀(n:Nat) (t:TypeId) (shs:List Sh) (fuel:Nat) (cs:List Value) (x:DataW H×List MemPlace),nb P n t=some shs→DataW.trod enc P w 0 (fun _=>true) true fuel t cs=some x→
  (∀m∈x.1.weights P t,m≤reachBytes)→∃ds,aU shs ds∧yL w ds cs:=by
 intro n
 induction n with
 |zero=>intro t shs fuel cs x h;cases h
 |succ n ih=>
  intro t shs fuel cs x h hx hw
  unfold nb at h
  split at h
  ·rename_i hu
   cases h
   obtain⟨b,rfl,rfl⟩:=DataW.trod_bool hu hx
   exact⟨[.v (.bool b)],.cons (.bool b) .nil,.one (.v _ rfl)⟩
  ·rename_i k hu
   cases h
   obtain⟨m,rfl,rfl,hwf⟩:=DataW.trod_int hu hx
   exact⟨[.v (.int k m)],.cons (.int k m hwf) .nil,.one (.v _ rfl)⟩
  ·rename_i hu
   cases h
   obtain⟨s,rfl,rfl,hs⟩:=DataW.trod_string hu hx
   have:s.size≤reachBytes:=by
    have:=hw s.data.toList.length (by simp[DataW.weights])
    simpa using this
   exact⟨[.v (.string s)],.cons (.str s this) .nil,.one (.v _ rfl)⟩
  ·rename_i e hu
   split at h
   ·rename_i es hes
    split at h
    ·rename_i hk
     cases h
     rcases DataW.trod_slice hu hx with⟨rfl,rfl⟩|⟨a,len,cap,elems,rest,m,rfl,rfl,rfl,_,hlc,hcm,hel,hget,_,_⟩
     ·exact⟨[.list false []],.cons (.slice _ _ _ (by simp) (by simp) (by simp)) .nil,.one (.nil _ _ fun _=>rfl)⟩
     ·have key:∀i,i<len→∃y:List D,aU es y∧∀j (h1:j<y.length),∃c,w.cell? (a.add (i* es.length+j))=some c∧RD (Live w) w y[j] c:=by
       intro i hi
       have hg:=hget i hi
       rw[List.getElem?_eq_getElem (by omega)]at hg
       obtain⟨ci,hci,htr⟩:=Option.bind_eq_some_iff.1 hg
       obtain⟨hcl,hcell⟩:=yK hci
       obtain⟨ds,h1,h2⟩:=ih e es m ci _ hes htr fun q hq=>hw q (by
        simp only[DataW.weights,hu]
        refine List.mem_cons_of_mem _ (List.mem_append_left _ (fo (List.mem_map.2 ⟨_,List.getElem_mem (show i<elems.length by omega),rfl⟩) hq)))
       refine⟨ds,h1,fun j hj=>?_⟩
       have hjc:j<ci.length:=by rw[←h2.1];exact hj
       refine⟨ci[j],?_,h2.2 j hj hjc⟩
       rw[←hcell j hjc,add_add,hk]
      obtain⟨l,hll,hlp⟩:=l9 _ len key
      refine⟨[.list false l],.cons (.slice _ _ _ ?_ (by omega) fun y hy=>?_) .nil,.one ?_⟩
      ·have:=hw ((elems.length+rest.length)* P.bytesOf e) (by simp[DataW.weights,hu])
       have h2:l.length* P.bytesOf e≤(elems.length+rest.length)* P.bytesOf e:=Nat.mul_le_mul_right _ (by omega)
       omega
      ·obtain⟨i,hi,rfl⟩:=List.mem_iff_getElem.1 hy
       exact(hlp i hi).1
      ·have hlen:l.length=len:=hll
       subst hlen
       have hw':∀i j,i<l.length→j<es.length→∃c,w.cell? (a.add (i* es.length+j))=some c:=by
        intro i j hi hj
        have:=(hlp i hi).1.len
        obtain⟨c,hc,_⟩:=(hlp i hi).2 j (by omega)
        exact⟨c,hc⟩
       refine .list false l a cap es.length (fun i j=>(w.cell? (a.add (i* es.length+j))).getD undef) hlc (fun y hy=>?_) (fun i j hi hj=>?_) fun i hi j hj=>?_
       ·obtain⟨i,hi,rfl⟩:=List.mem_iff_getElem.1 hy
        exact(hlp i hi).1.len
       ·obtain⟨c,hc⟩:=hw' i j hi hj
        exact⟨⟨c,hc⟩,by simp[hc]⟩
       ·obtain⟨c,hc,hd⟩:=(hlp i hi).2 j hj
        simpa[hc]using hd
    ·cases h
   ·cases h
  ·rename_i fs hu
   split at h
   ·rename_i l hl
    split at h
    ·rename_i hk
     cases h
     obtain⟨xs,m,rfl,rfl,hcl,hxl,hget⟩:=DataW.trod_struct hu hx
     have:=jR (w:=w) fs.toList 0 shs cs hl (by omega) fun f hf l' hl'=>by
      obtain⟨i,hi,rfl⟩:=List.mem_iff_getElem.1 hf
      have hi':i<fs.size:=by simpa using hi
      have hg:=hget i fs[i] (by simp[hi'])
      rw[List.getElem?_eq_getElem (by omega)]at hg
      refine ih _ l' m _ _ (by simpa using hl') (by simpa using hg) fun q hq=>hw q ?_
      simp only[DataW.weights,hu]
      refine DataW.weights_mem_each (j:=i) (t:=(fs.toList[i]).type) (d:=(xs[i]'(by omega)).1) ?_ ?_ q hq
      ·simp[hi']
      ·simp[show i<xs.length by omega]
     simpa using this
    ·cases h
   ·cases h
  ·rename_i m e hu
   split at h
   ·rename_i es hes
    split at h
    ·rename_i hk
     cases h
     cases fuel with
     |zero=>simp[DataW.trod]at hx
     |succ f=>
      unfold DataW.trod at hx
      rw[hu]at hx
      have hx':(if cs.length=P.cellsOf t then((List.range m).mapM fun i=>DataW.trod enc P w 0 (fun _=>true) true f e ((cs.drop (i* P.cellsOf e)).take (P.cellsOf e))).map fun xs=>(DataW.agg (xs.map (·.1)),xs.flatMap (·.2))else none)=some x:=by
       revert hx
       rcases cs with _|⟨c,_|⟨c',cs⟩⟩
       ·exact id
       ·cases c<;>exact id
       ·exact id
      split at hx'
      ·rename_i hcl
       obtain⟨xs,hxs,rfl⟩:=Option.map_eq_some_iff.1 hx'
       have hxl:=mapM_some_length hxs
       rw[List.length_range]at hxl
       have key:∀q,q≤m→∃ds,aU ((List.replicate q es).flatten) ds∧yL w ds (cs.take (q* es.length)):=by
        intro q
        induction q with
        |zero=>intro _;exact⟨[],by simpa using aU.nil,by simpa using yL.nil⟩
        |succ q ihq=>
         intro hq
         obtain⟨ds,h1,h2⟩:=ihq (by omega)
         have hg:=mapM_some_get hxs q q (by rw[List.getElem?_range (by omega)])
         rw[List.getElem?_eq_getElem (by omega)]at hg
         obtain⟨ds',h3,h4⟩:=ih e es f _ _ hes hg fun z hz=>hw z (by
          simp only[DataW.weights,hu]
          exact fo (List.mem_map.2 ⟨_,List.getElem_mem (show q<xs.length by omega),rfl⟩) hz)
         refine⟨ds++ds',?_,?_⟩
         ·rw[List.replicate_succ',List.flatten_append]
          simpa using h1.append h3
         ·have:=h2.append h4
          rw[←hk.1,←List.take_add]at this
          rwa[Nat.add_mul,Nat.one_mul]
       obtain⟨ds,h1,h2⟩:=key m (Nat.le_refl _)
       refine⟨ds,h1,?_⟩
       rwa[←hk.2,←hcl,List.take_length]at h2
      ·cases hx'
    ·cases h
   ·cases h
  ·cases h
def jm(P:Program)(t:TypeId)(x:AV):Prop:=(de P t=some false∧∃sh d,nb P 9 t=some [sh]∧Fits sh d∧x= .d d)∨(de P t=some true∧∃shs ds,nb P 9 t=some shs∧aU shs ds∧x= .agg (ds.map .d))
theorem Da{t:TypeId}{v:Value}{d:DataW H}{ps:List MemPlace}{shs:List Sh}{b:Bool}(hs:nb P 9 t=some shs)(hg:de P t=some b)(hval:Value.okWide P w .any 0 t v)(h:DataW.Trod enc P w 0 (fun _=>true) true t v d ps)
  (hw:∀m∈d.weights P t,m≤reachBytes):∃x,jm P t x∧RA [] (fun _=>none) (Live w) w x v:=by
 obtain⟨fuel,hf⟩:=h
 obtain⟨ds,h1,h2⟩:=trod_good 9 t shs fuel v.cells.toList _ hs hf hw
 unfold de at hg
 obtain⟨desc,hd,hb⟩:=Option.map_eq_some_iff.1 hg
 have one:v.cells=#[v]→ds.length=1→b=false→∃x,jm P t x∧RA [] (fun _=>none) (Live w) w x v:=by
  intro hv hl hbf
  subst hbf
  have hl2:=h1.len
  match ds,hl,shs,hs,h1,h2 with
  |[d0],_,[sh],hs,.cons hd0 .nil,h2=>
   refine⟨.d d0,.inl ⟨by unfold de;rw[hd];exact congrArg some hb,sh,d0,hs,hd0,rfl⟩,.d ?_⟩
   have:=h2.2 0 (by simp) (by simp[hv])
   simpa[hv]using this
 have agg:b=true→(∃cs,v= .agg cs)→∃x,jm P t x∧RA [] (fun _=>none) (Live w) w x v:=by
  intro hbt ⟨cs,hv⟩
  subst hbt hv
  refine⟨.agg (ds.map .d),.inr ⟨by unfold de;rw[hd];exact congrArg some hb,shs,ds,hs,h1,rfl⟩,.agg _ _ (by simpa[Value.cells]using h2.1) fun i g1 g2=>?_⟩
  simp only[List.getElem_map]
  have:=h2.2 i (by simpa using g1) (by simpa[Value.cells]using g2)
  exact .d (by simpa[Value.cells]using this)
 have len1:v.cells=#[v]→ds.length=1:=fun hv=>by rw[h2.1,hv];rfl
 unfold nb at hs
 rw[hd]at hs
 cases desc with
 |bool=>obtain⟨q,rfl⟩:=okWide_bool hd hval;exact one rfl (len1 rfl) hb.symm
 |int k=>obtain⟨q,rfl⟩:=okWide_int hd hval;exact one rfl (len1 rfl) hb.symm
 |string=>obtain⟨q,rfl⟩:=okWide_string hd hval;exact one rfl (len1 rfl) hb.symm
 |slice e=>obtain⟨q,l,c,rfl⟩:=okWide_slice hd hval;exact one rfl (len1 rfl) hb.symm
 |struct fs=>obtain⟨cs,rfl,_⟩:=okWide_struct hd hval;exact agg hb.symm ⟨cs,rfl⟩
 |array m e=>
  have hval':=hval
  unfold Value.okWide at hval'
  rw[hd]at hval'
  obtain⟨cs,rfl,_⟩:=hval'
  exact agg hb.symm ⟨cs,rfl⟩
 |_=>simp at hs
theorem arg_in'{t:TypeId}{v:Value}{d:DataW H}{ps:List MemPlace}(hs:(nb P 9 t).isSome=true)(hg:(de P t).isSome=true)(hval:Value.okWide P w .any 0 t v)(h:DataW.Trod enc P w 0 (fun _=>true) true t v d ps)
  (hw:∀m∈d.weights P t,m≤reachBytes):∃x,jm P t x∧RA [] (fun _=>none) (Live w) w x v:=by
 obtain⟨shs,hs⟩:=Option.isSome_iff_exists.1 hs
 obtain⟨b,hg⟩:=Option.isSome_iff_exists.1 hg
 exact Da hs hg hval h hw
end
inductive RAL (H:aa) (φ:aI) (N:Addr→Prop) (w:World):List AV→List Value→Prop
 |nil:RAL H φ N w [] []
 |cons {x:AV} {v:Value} {xs:List AV} {vs:List Value} (h:RA H φ N w x v) (t:RAL H φ N w xs vs):RAL H φ N w (x::xs) (v::vs)
theorem RAL.to{H:aa}{φ:aI}{N:Addr→Prop}{w:World}:∀{xs:List AV} {vs:List Value},RAL H φ N w xs vs→xs.length=vs.length∧∀i (h1:i<xs.length) (h2:i<vs.length),RA H φ N w (xs[i]) (vs[i])
 |_,_,.nil=>⟨rfl,fun i h=>by simp at h⟩
 |_,_,.cons h t=>⟨by simp[t.to.1],fun i h1 h2=>by
  cases i with
  |zero=>exact h
  |succ i=>simpa using t.to.2 i (by simpa using h1) (by simpa using h2)⟩
theorem RAL.ras{H:aa}{φ:aI}{N:Addr→Prop}{w:World}{xs:List AV}{vs:List Value}(h:RAL H φ N w xs vs):oG H φ N w xs vs.toArray:=⟨by simpa using h.to.1,fun i h1 h2=>by simpa using h.to.2 i h1 (by simpa using h2)⟩
end Go.Proofs.YtggohfhfocgilaaGreatAw
namespace Go.Proofs.YtggohfhfocgilaaGreat.K
open Go.Proofs.YtggohfhfocgilaaGreatAw
theorem H8:dV Tryz.prog 3=true:=by kernel_rfl
theorem HU:dV Tryz.prog 4=true:=by kernel_rfl
theorem H9:dV Tryz.prog 5=true:=by kernel_rfl
theorem Hc:dV Tryz.prog 23=true:=by kernel_rfl
theorem HI:dV Tryz.prog 36=true:=by kernel_rfl
theorem GV:dV Tryz.prog 40=true:=by kernel_rfl
theorem Hj:dV Tryz.prog 45=true:=by kernel_rfl
theorem Hb:dV Tryz.prog 68=true:=by kernel_rfl
theorem G8:dV Tryz.prog 96=true:=by kernel_rfl
theorem FU:dV Tryz.prog 100=true:=by kernel_rfl
theorem EJ:dV Tryz.prog 102=true:=by kernel_rfl
theorem F5:dV Tryz.prog 109=true:=by kernel_rfl
theorem F1:dV Tryz.prog 110=true:=by kernel_rfl
theorem F4:dV Tryz.prog 113=true:=by kernel_rfl
theorem Gp:dV Tryz.prog 114=true:=by kernel_rfl
theorem FP:dV Tryz.prog 115=true:=by kernel_rfl
theorem F0:dV Tryz.prog 118=true:=by kernel_rfl
theorem FW:dV Tryz.prog 120=true:=by kernel_rfl
theorem FI:dV Tryz.prog 123=true:=by kernel_rfl
theorem EF:dV Tryz.prog 136=true:=by kernel_rfl
theorem EK:dV Tryz.prog 223=true:=by kernel_rfl
theorem F9:eK Tryz.prog 235=true:=by kernel_rfl
theorem FN:dV Tryz.prog 267=true:=by kernel_rfl
theorem Gb:dV Tryz.prog 287=true:=by kernel_rfl
attribute [go_sem] H8 HU H9 Hc HI GV Hj Hb G8 FU EJ F5 F1 F4 Gp FP F0 FW FI EF EK F9 FN Gb
end Go.Proofs.YtggohfhfocgilaaGreat.K
namespace Go.Proofs.YtggohfhfocgilaaGreatAw
open Go.RowKit
section
variable {P:Program} {hint:Nat→Bool} {s:Nat→AV} {H:aa}
theorem E8{A B C D E F G G':Prop}(g:G→G'):(A∧B∧C∧D∧E∧F∧G)→(A∧B∧C∧D∧E∧F∧G'):=fun⟨a,b,c,d,e,f,h⟩=>⟨a,b,c,d,e,f,g h⟩
theorem HD{A B C D E G G':Prop}(g:G→G'):(A∧B∧C∧D∧E∧G)→(A∧B∧C∧D∧E∧G'):=fun⟨a,b,c,d,e,h⟩=>⟨a,b,c,d,e,g h⟩
theorem yl{op:BinOp}{t:TypeId}{u v:Value}{K K':Value→Prop}(hk:∀r,K r→K' r)(h:ck P op t u v K):ck P op t u v K':=by
 unfold ck at h⊢
 repeat' (split at h)
 all_goals first|exact h.elim|exact hk _ h|exact⟨h.1,hk _ h.2⟩|exact⟨h.1,h.2.1,hk _ h.2.2⟩|(obtain⟨r,h1,h2⟩:=h;first|exact⟨r,h1,hk _ h2⟩|(simp_all;done))
 all_goals exact⟨_,h.choose_spec.1,hk _ h.choose_spec.2⟩
theorem Av{op:UnOp}{u:Value}{K K':Value→Prop}(hk:∀r,K r→K' r)(h:zA op u K):zA op u K':=by
 cases op<;>cases u<;>first|exact h.elim|exact hk _ h|exact⟨h.1,hk _ h.2⟩
theorem jL{b:Builtin}{args:List Operand}{tys:List TypeId}{K K':AV→aa→Prop}(hk:∀r H,K r H→K' r H)(h:bU P s H b args tys K):bU P s H b args tys K':=by
 unfold bU at h⊢
 repeat' (split at h)
 all_goals first|exact h.elim|exact hk _ _ h|exact⟨h.1,hk _ _ h.2⟩|exact⟨h.1,h.2.1,hk _ _ h.2.2⟩|exact⟨h.1,h.2.1,h.2.2.1,hk _ _ h.2.2.2⟩|exact HD (hk _ _) h|exact E8 (hk _ _) h|(simp_all;done)
theorem sq{k:Nat}{lo:Option Int}{hi:Nat→Option Int}{x:AV}{K K':AV→aa→Prop}(hk:∀r H,K r H→K' r H)(h:cJ H k lo hi K x):cJ H k lo hi K' x:=by
 cases x with
 |d u=>
  cases u with
  |v _=>exact h.elim
  |list nn es=>
   simp only[cJ]at h⊢
   refine⟨h.1,?_⟩
   replace h:=h.2
   cases lo with
   |none=>exact h
   |some l=>
    cases hq:hi es.length with
    |none=>rw[hq]at h;exact h
    |some m=>rw[hq]at h;exact⟨h.1,h.2.1,h.2.2.1,hk _ _ h.2.2.2⟩
 |sl id ag off len=>
  simp only[cJ]at h⊢
  cases ho:H[id]? with
  |none=>rw[ho]at h;exact h.elim
  |some o=>
   rw[ho]at h
   cases lo with
   |none=>exact h.elim
   |some l=>
    cases hq:hi len with
    |none=>rw[hq]at h;exact h.elim
    |some m=>rw[hq]at h;exact⟨h.1,h.2.1,h.2.2.1,h.2.2.2.1,h.2.2.2.2.1,hk _ _ h.2.2.2.2.2⟩
 |_=>exact h.elim
theorem qZ{k:Nat}{lo hi mx:Option Int}{x:AV}{K K':AV→aa→Prop}(hk:∀r H,K r H→K' r H)(h:er H k lo hi mx K x):er H k lo hi mx K' x:=by
 cases x with
 |d u=>
  cases u with
  |v _=>exact h.elim
  |list nn es=>cases lo<;>cases hi<;>cases mx<;>first|exact h.2.elim|exact⟨h.1,h.2.1,h.2.2.1,h.2.2.2.1,h.2.2.2.2.1,hk _ _ h.2.2.2.2.2⟩
 |_=>exact h.elim
theorem qy{t:TypeId}{ok:Bool}{v:Option Value}{K K':AV→aa→Prop}(hk:∀r H,K r H→K' r H)(h:eP P t ok H K v):eP P t ok H K' v:=by
 unfold eP at h⊢
 cases e:kA P t ok v with
 |none=>rw[e]at h;exact h.2.elim
 |some r=>rw[e]at h;exact⟨h.1,hk _ _ h.2⟩
theorem yd{n:Nat}{x:AV}{K K':AV→aa→Prop}(hk:∀r H,K r H→K' r H)(h:wO H n K x):wO H n K' x:=by
 cases x with
 |bW ds=>exact⟨h.1,hk _ _ h.2⟩
 |_=>exact h.elim
theorem tv{hi:Bool}{op:Op}{K K':AV→aa→Prop}(hk:∀r H,K r H→K' r H)(h:fI P s H hi op K):fI P s H hi op K':=by
 unfold fI at h⊢
 repeat' (split at h)
 all_goals first|exact h.elim|(rw[if_pos (by assumption)];obtain⟨h1,id,e',h2,h3⟩:=h;exact⟨h1,id,e',h2,hk _ _ h3⟩)|(rw[if_neg (by assumption)];exact⟨h.1,hk _ _ h.2⟩)|exact hk _ _ h|exact⟨h.1,hk _ _ h.2⟩|exact⟨h.1,h.2.1,hk _ _ h.2.2⟩|exact⟨h.1,h.2.1,h.2.2.1,hk _ _ h.2.2.2⟩|exact E8 (hk _ _) h|exact yl (fun r=>hk _ _) h|exact Av (fun r=>hk _ _) h|exact jL hk h|exact sq hk h|exact⟨h.1,h.2.1,yd hk h.2.2⟩|exact qZ hk h|exact qy hk h|exact⟨h.1,fun g=>hk _ _ (h.2.1 g),fun j e g1 g2=>hk _ _ (h.2.2 j e g1 g2)⟩|skip
 all_goals first|(rw[if_neg (by assumption)];exact⟨h.1,by first|(rw[if_pos (by assumption)];exact hk _ _ h.2)|(rw[if_neg (by assumption)];exact hk _ _ h.2)⟩)|(simp_all;done)
theorem nZ{o:Oper}{K K':AV→aa→Prop}{KP KP':Value→aa→Prop}(hk:∀r H,K r H→K' r H)(hp:∀r H,KP r H→KP' r H)(h:aB P hint s H o K KP):aB P hint s H o K' KP':=by
 unfold aB at h⊢
 split at h
 ·split at h
  ·exact hp _ _ h
  ·exact h.elim
 ·split at h
  ·split at h
   ·obtain⟨res,H',hd,h⟩:=h
    refine⟨res,H',hd,?_⟩
    cases res with
    |ok r=>exact hk _ _ h
    |panic v=>exact hp _ _ h
   ·obtain⟨hy,R,hR,h⟩:=h
    exact⟨hy,R,hR,fun b H' hb=>hk _ _ (h b H' hb)⟩
   ·exact h.elim
  ·exact jL hk h
  ·exact h.elim
 ·exact tv hk h
theorem gN{n:Nat}{ops:Array Oper}{Q Q':aQ}{o:Oper}{K K':(Nat→AV)→aa→Prop}(hq:∀v s H,Q (.panic v) s H→Q' (.panic v) s H)(hk:∀s H,K s H→K' s H)(h:cy P hint n ops Q o K s H):cy P hint n ops Q' o K' s H:=by
 unfold cy at h⊢
 split at h
 ·exact nZ (fun r H=>hk _ _) (fun v H=>hq _ _ _) h
 ·split at h
  ·split at h
   ·rw[if_pos (by assumption)]
    exact nZ (fun r H=>hk _ _) (fun v H=>hq _ _ _) h
   ·rw[if_neg (by assumption)]
    exact hk _ _ h
  ·exact h.elim
theorem kC{n:Nat}{ops:Array Oper}{Q Q':aQ}(hq:∀e s H,Q e s H→Q' e s H):∀(l:List Oper) (s:Nat→AV) (H:aa),aM P hint n ops Q l s H→aM P hint n ops Q' l s H
 |[],s,H,h=>hq _ _ _ h
 |o::rest,s,H,h=>gN (fun v=>hq _) (fun s H=>kC hq rest s H) h
theorem iK{n:Nat}{ops:Array Oper}{Q Q':aQ}(hq:∀e s H,Q e s H→Q' e s H):∀(fuel:Nat) (l:Array Bool) (s:Nat→AV) (H:aa),eN P hint n ops Q fuel l s H→eN P hint n ops Q' fuel l s H
 |0,l,s,H,h=>⟨h.1,hq _ _ _ h.2⟩
 |fuel+1,l,s,H,h=>by
  refine⟨fun hr=>hq _ _ _ (h.1 hr),fun i hi=>?_⟩
  have:=h.2 i hi
  split at this
  ·exact iK hq fuel _ _ _ this
  ·exact gN (fun v=>hq _) (fun s H=>iK hq fuel _ s H) this
theorem gF{n:Nat}{H0:aa}:∀(c:Code) {Q Q':aQ} (hq:∀e s H,Q e s H→Q' e s H) (s:Nat→AV) (H:aa),cq P hint n H0 c Q s H→cq P hint n H0 c Q' s H:=by
 intro c
 induction c with
 |skip=>exact fun hq s H h=>hq _ _ _ h
 |label l=>exact fun hq s H h=>hq _ _ _ h
 |scope x ih=>exact fun hq s H h=>ih hq s H h
 |region id ops draw=>
  intro Q Q' hq s H h
  cases draw with
  |false=>exact kC hq _ _ _ h
  |true=>exact⟨h.1,iK hq _ _ _ _ h.2⟩
 |seq x y ihx ihy=>
  intro Q Q' hq s H h
  refine ihx (fun e s H h=>?_) s H h
  cases e with
  |normal=>
   have h:if c4 hint y=true then ∃s'' H'',an H0 s H s'' H''∧cq P hint n H0 y Q s'' H'' else cq P hint n H0 y Q s H:=h
   show if c4 hint y=true then ∃s'' H'',an H0 s H s'' H''∧cq P hint n H0 y Q' s'' H'' else cq P hint n H0 y Q' s H
   split at h
   ·rw[if_pos (by assumption)]
    obtain⟨s'',H'',hW,h⟩:=h
    exact⟨s'',H'',hW,ihy hq s'' H'' h⟩
   ·rw[if_neg (by assumption)]
    exact ihy hq s H h
  |_=>exact hq _ _ _ h
 |cond c x y ihx ihy=>
  intro Q Q' hq s H h
  unfold cq at h⊢
  split at h
  ·split at h
   ·rw[if_pos (by assumption)];exact ihx hq s H h
   ·rw[if_neg (by assumption)];exact ihy hq s H h
  ·exact h.elim
 |block id x ih=>
  intro Q Q' hq s H h
  refine ih (fun e s H h=>?_) s H h
  cases e with
  |exit i=>
   show if i=id then Q' .normal s H else Q' (.exit i) s H
   have h:if i=id then Q .normal s H else Q (.exit i) s H:=h
   split at h
   ·rw[if_pos (by assumption)];exact hq _ _ _ h
   ·rw[if_neg (by assumption)];exact hq _ _ _ h
  |_=>exact hq _ _ _ h
 |loop x ih=>
  intro Q Q' hq s H h
  obtain⟨I,m,h1,h2⟩:=h
  refine⟨I,m,h1,fun m s H hI=>ih (fun e s H h=>?_) s H (h2 m s H hI)⟩
  cases e with
  |normal=>exact h
  |_=>exact hq _ _ _ h
 |exit id=>exact fun hq s H h=>hq _ _ _ h
 |ret=>exact fun hq s H h=>hq _ _ _ h
 |rangeFunc g ps x y=>
  intro Q Q' hq s H h
  obtain⟨hm,hint',gf,caps,xs,C,I,Ix,s0,H1,g1,g2,g3,g4,g5,g6,g7,g8,g9,g10⟩:=h
  exact⟨hm,hint',gf,caps,xs,C,I,Ix,s0,H1,g1,g2,g3,g4,g5,g6,g7,g8,fun Hn h=>hq _ _ _ (g9 Hn h),fun e Hx h=>hq _ _ _ (g10 e Hx h)⟩
 |_=>intros;rename_i h;exact h.elim
end
section
variable (P:Program) (hint:Nat→Bool) (n:Nat) (H0:aa)
def nA(c:Operand)(b:Bool)(R:(Nat→AV)→aa→Prop):aQ:=fun e s H=>match e with| .normal=>ai s c= .d (.v (.bool b))∧R s H|_=>False
theorem qI(c:Operand)(b:Bool)(R:(Nat→AV)→aa→Prop)(s:Nat→AV)(H:aa):nA c b R .normal s H=(ai s c= .d (.v (.bool b))∧R s H):=rfl
def nK(pR:Code)(b b':Nat)(R:(Nat→AV)→aa→Prop)(Q:aQ):aQ:=fun e s H=>match e with
 | .normal=>iV P hint n H0 pR (eF R (cI b Q)) .normal s H
 | .exit i=>if i=b' then iV P hint n H0 pR (eF R (cI b Q)) .normal s H else cI b Q (.exit i) s H
 |e=>Q e s H
theorem qG(pR:Code)(b b':Nat)(R:(Nat→AV)→aa→Prop)(Q:aQ)(s:Nat→AV)(H:aa):nK P hint n H0 pR b b' R Q .normal s H=iV P hint n H0 pR (eF R (cI b Q)) .normal s H:=rfl
theorem ov(pR:Code)(b b':Nat)(R:(Nat→AV)→aa→Prop)(Q:aQ)(i:Nat)(s:Nat→AV)(H:aa):nK P hint n H0 pR b b' R Q (.exit i) s H=if i=b' then iV P hint n H0 pR (eF R (cI b Q)) .normal s H else cI b Q (.exit i) s H:=rfl
theorem yZ(pR:Code)(b b':Nat)(R:(Nat→AV)→aa→Prop)(Q:aQ)(s:Nat→AV)(H:aa):nK P hint n H0 pR b b' R Q .ret s H=Q .ret s H:=rfl
end
attribute [go_sem] qI qG ov yZ
def kL(x:Option Bool)(A B:Prop):Prop:=match x with|some true=>A|some false=>B|none=>False
theorem vz(A B:Prop):kL (some true) A B=A:=rfl
theorem r9(A B:Prop):kL (some false) A B=B:=rfl
theorem sO{x y:Option Bool}{A B:Prop}(h:nf x=y):kL x A B=kL y A B:=by rw[←h];rfl
theorem Az{P:Program}{hint:Nat→Bool}{n:Nat}{H0:aa}(c:Operand)(x y:Code)(Q:aQ)(s:Nat→AV)(H:aa):cq P hint n H0 (.cond c x y) Q s H=kL (Hq (ai s c)) (cq P hint n H0 x Q s H) (cq P hint n H0 y Q s H):=by
 rw[og]
 generalize ai s c=v
 cases v with
 |d u=>
  cases u with
  |v z=>cases z<;>first|rfl|(rename_i b;cases b<;>rfl)
  |list _ _=>rfl
 |_=>rfl
theorem cF{x:Option Bool}{A B:Prop}(hc:x=some true)(h:A):kL x A B:=by rw[hc];exact h
theorem cx{x:Option Bool}{A B:Prop}(hc:x=some false)(h:B):kL x A B:=by rw[hc];exact h
attribute [go_sem] vz r9
def An:Option aA→Option (TypeId×Nat×Nat×List (List D))
 |some (.arr e k ag es)=>some (e,k,ag,es)
 |_=>none
theorem yg(e:TypeId)(k ag:Nat)(es:List (List D)):An (some (.arr e k ag es))=some (e,k,ag,es):=rfl
theorem xK(H:aa)(e:TypeId)(k b:Nat)(news:List (List D))(K:AV→aa→Prop)(id ag len:Nat):mm H e k b news K (.sl id ag 0 len)=ob (An H[id]?) fun a=>
  (a.1=e∧a.2.1=k∧a.2.2.1=ag∧a.2.2.2.length=len)∧(a.2.2.2.length+news.length)* b≤140737488355328∧a.2.2.2.length+news.length≤9223372036854775807∧
    K (.sl id (ag+1) 0 (a.2.2.2.length+news.length)) (H.set id (.arr e k (ag+1) (a.2.2.2++news))):=by
 simp only[mm]
 rcases H[id]? with _|o
 ·rfl
 ·cases o<;>rfl
theorem zX(l:List Value)(n:Nat)(h:l.length=n):l.toArray.all Value.oneCell' 0 n=l.all Value.oneCell':=by subst h;simp
attribute [go_sem] zX Int.cast_ofNat_Int
theorem qh{P:Program}{t:TypeId}(k:FloatKind)(a b:Nat)(K:Value→Prop):ck P .neq t (.float k a) (.float k b) K=K (.bool (k.format.order a b !=some .eq)):=by
 have hp:bH P .neq t (.float k a) (.float k b) (.bool (k.format.order a b !=some .eq)):=fun x y w=>by
  simp[eqGuard,binOp,Op.floatCmp]
 have:ck P .neq t (.float k a) (.float k b) K=∃r,bH P .neq t (.float k a) (.float k b) r∧K r:=by unfold ck;rfl
 rw[this]
 refine propext ⟨fun⟨r,hr,k⟩=>?_,fun k=>⟨_,hp,k⟩⟩
 have h1:=hr (.const .nilIface) (.const .nilIface) default
 rw[hp (.const .nilIface) (.const .nilIface) default]at h1
 cases h1;exact k
theorem isAny.get{P:Program}{t:TypeId}(h:isAny P t=true):∃ms,P.underlying t=some (.interface ms)∧ms.isEmpty=true:=by
 unfold isAny at h
 split at h
 ·rename_i ms hm;exact⟨ms,hm,h⟩
 ·cases h
attribute [go_sem] qh
theorem vJ(P:Program)(t:TypeId):fU P t (.d (.v (.slice none 0 0)))=(SE P t).isSome:=rfl
theorem vq(P:Program)(t:TypeId):fU P t (.d (.v (.pointer none)))=eK P t:=rfl
theorem tH(P:Program)(t:TypeId)(nn:Bool)(es:List (List D)):fU P t (.d (.list nn es))=false:=rfl
theorem Bh(P:Program)(t:TypeId)(a b c d:Nat):fU P t (.ptr a b c d)=false:=rfl
theorem wA(P:Program)(H:aa)(t:TypeId)(nn:Bool)(es:List (List D)):known P H t (.d (.list nn es))=((SE P t).isSome&&(nn|| !es.isEmpty)):=rfl
theorem xU(P:Program)(H:aa)(t:TypeId)(id ag i j:Nat):known P H t (.ptr id ag i j)=(eK P t&&(match H[id]? with|some o=>o.ag==ag|none=>false)):=rfl
theorem BS(P:Program)(H:aa)(t:TypeId)(x:Value):known P H t (.d (.v x))=false:=by cases x<;>rfl
theorem vX(P:Program)(H:aa)(t:TypeId)(x y:AV):km P H .eql t x y=((fU P t y&&known P H t x)||(fU P t x&&known P H t y)):=by simp[km]
theorem yT:m2 .eql=false:=rfl
attribute [go_sem] vJ vq tH Bh wA xU BS vX yT Option.isSome_some Option.isSome_none Bool.or_false Bool.false_or Bool.or_true Bool.true_or List.isEmpty_cons
theorem ny(a b:Int):(a==b)=decide (a=b):=by by_cases h:a=b<;>simp[h]
theorem nj(a b:Int):(a !=b)= !decide (a=b):=by by_cases h:a=b<;>simp[h]
attribute [go_sem] Int.natCast_add ny nj List.all_map
theorem wN(H:aa)(k m:Nat):(H.length+k<H.length+m)=(k<m):=by simp
theorem BN(H:aa)(m:Nat):(H.length<H.length+m)=(0<m):=by simp
theorem BT(H:aa)(m:Nat):(H.length+m<H.length)=False:=by simp
theorem xV(m:Nat)(e:TypeId)(k ag:Nat)(es:List (List D)):(aA.arr e k ag es).below m=true:=rfl
theorem y6(m:Nat)(e:TypeId)(k ag n:Nat)(cs:List AV):(aA.box e k ag n cs).below m=cs.all (fc m):=rfl
theorem Ad(m:Nat)(kk:IntKind)(es:List (Int×AV)):(aA.mp kk es).below m=es.all fun e=>fc m e.2:=rfl
theorem kY(m:Nat)(x:D):fc m (.d x)=true:=rfl
theorem yN(m id v i j:Nat):fc m (.sl id v i j)=decide (id<m):=rfl
theorem yf(m id:Nat):fc m (.mp id)=decide (id<m):=rfl
theorem DI(H:aa)(m:Nat)(f:FuncId)(cs:List AV):qd H m (.fn f cs)= .fn f (cs.map (kn H m)):=rfl
attribute [go_sem] xV y6 Ad kY yN yf DI wN BN BT Nat.lt_irrefl decide_eq_true_eq
theorem zQ(H:aa)(k:Nat)(i:Int)(id ag off len:Nat):fH H k i (.sl id ag off len)=if 0≤i∧i<len then(H[id]?).bind fun ob=>if ob.ag=ag∧ob.k=k∧ob.live=true then some (.ptr id ag (off+i.toNat) 0)else none else none:=rfl
theorem BX(H:aa)(id ag off len:Nat):iz H (.sl id ag off len)=(An H[id]?).bind fun a=>if a.2.2.1=ag then some ((a.2.2.2.drop off).take len)else none:=by
 simp only[iz]
 rcases H[id]? with _|o
 ·rfl
 ·cases o<;>rfl
attribute [go_sem] zQ BX u5 yQ
attribute [go_sem] yg xK
section
variable {P:Program} {hint:Nat→Bool} {n:Nat} {H0:aa}
theorem bf{b b':Nat}{cR pR body:Code}{c:Operand}(I:Nat→(Nat→AV)→aa→Prop)(m:Nat){Q:aQ}{s s':Nat→AV}{H H':aa}(hm:m≤9223372036854775807)(hW:an H0 s H s' H')(h0:I 0 s' H')
  (step:∀k s H,k<m→IntKind.i64.wrap ((k:Int)+1)=(k:Int)+1→I k s H→cq P hint n H0 cR (nA c true fun s H=>cq P hint n H0 body (nK P hint n H0 pR b b' (fun s' H'=>∃s'' H'',an H0 s' H' s'' H''∧I (k+1) s'' H'') Q) s H) s H)
  (done:∀s H,I m s H→cq P hint n H0 cR (nA c false fun s H=>Q .normal s H) s H):
  cq P hint n H0 (.loop (.seq cR (.seq (.cond c .skip (.exit b)) (.seq (.block b' body) pR)))) (cI b Q) s H:=by
 refine br P hint n H0 (fun k s H=>k≤m∧I k s H) (fun k=>m-k) 0 hW ⟨Nat.zero_le _,h0⟩ ?_
 rintro k s H ⟨hk,hI⟩
 rw[dq]
 by_cases hlt:k<m
 ·refine gF cR (fun e s H h=>?_) s H (step k s H hlt (wrap64_in _ (by omega) (by omega)) hI)
  cases e with
  |normal=>
   obtain⟨hc,h⟩:=h
   simp only[cD,dq]
   rw[og,hc]
   simp only[if_true,tW,cD,dq,pW]
   refine gF body (fun e s H h=>?_) s H h
   have fin:iV P hint n H0 pR (eF (fun s' H'=>∃s'' H'',an H0 s' H' s'' H''∧I (k+1) s'' H'') (cI b Q)) .normal s H→
     iV P hint n H0 pR (eF (fun s' H'=>∃s'' H'' y,an H0 s' H' s'' H''∧(y≤m∧I y s'' H'')∧m-y<m-k) (cI b Q)) .normal s H:=by
    have mon:∀s H,cq P hint n H0 pR (eF (fun s' H'=>∃s'' H'',an H0 s' H' s'' H''∧I (k+1) s'' H'') (cI b Q)) s H→
      cq P hint n H0 pR (eF (fun s' H'=>∃s'' H'' y,an H0 s' H' s'' H''∧(y≤m∧I y s'' H'')∧m-y<m-k) (cI b Q)) s H:=by
     refine fun s H=>gF pR (fun e s H h=>?_) s H
     cases e with
     |normal=>
      obtain⟨s'',H'',h1,h2⟩:=h
      exact⟨s'',H'',k+1,h1,⟨hlt,h2⟩,by omega⟩
     |_=>exact h
    rw[cD,cD]
    cases c4 hint pR with
    |true=>exact fun⟨s2,H2,h1,h2⟩=>⟨s2,H2,h1,mon _ _ h2⟩
    |false=>exact mon s H
   cases e with
   |normal=>exact fin h
   |exit i=>
    rw[ov]at h
    rw[fF]
    by_cases hi:i=b'
    ·rw[if_pos hi]at h⊢;exact fin h
    ·rw[if_neg hi]at h⊢;exact h
   |ret=>exact h
   |panic v=>exact h
  |_=>exact h.elim
 ·obtain rfl:k=m:=by omega
  refine gF cR (fun e s H h=>?_) s H (done s H hI)
  cases e with
  |normal=>
   obtain⟨hc,h⟩:=h
   simp only[cD,dq]
   rw[og,hc]
   simp only[Bool.false_eq_true,if_false,s5,pT]
   show cI b Q (.exit b) s H
   rw[fF,if_pos rfl]
   exact h
  |_=>exact h.elim
theorem yw(x y z:Code)(Q:aQ)(s:Nat→AV)(H:aa):cq P hint n H0 (.seq (.seq x y) z) Q s H=cq P hint n H0 (.seq x (.seq y z)) Q s H:=by
 simp only[dq]
 congr 1
 funext e s H
 cases e<;>rfl
theorem nP{x y:Code}(h:∀Q s H,cq P hint n H0 x Q s H=cq P hint n H0 y Q s H)(Q:aQ)(s:Nat→AV)(H:aa):cq P hint n H0 (.loop x) Q s H=cq P hint n H0 (.loop y) Q s H:=by
 unfold cq
 simp only[h]
theorem aP{b b':Nat}{cR pR body:Code}{c:Operand}(I:Nat→(Nat→AV)→aa→Prop)(m:Nat){Q:aQ}{s s':Nat→AV}{H H':aa}(hm:m≤9223372036854775807)(hW:an H0 s H s' H')(h0:I 0 s' H')
  (step:∀k s H,k<m→IntKind.i64.wrap ((k:Int)+1)=(k:Int)+1→I k s H→cq P hint n H0 cR (nA c true fun s H=>cq P hint n H0 body (nK P hint n H0 pR b b' (fun s' H'=>∃s'' H'',an H0 s' H' s'' H''∧I (k+1) s'' H'') Q) s H) s H)
  (done:∀s H,I m s H→cq P hint n H0 cR (nA c false fun s H=>Q .normal s H) s H):
  cq P hint n H0 (.loop (.seq (.seq cR (.cond c .skip (.exit b))) (.seq (.block b' body) pR))) (cI b Q) s H:=by
 rw[nP fun Q s H=>yw cR (.cond c .skip (.exit b)) (.seq (.block b' body) pR) Q s H]
 exact bf I m hm hW h0 step done
theorem an.cut(dc T:aa)(m:Nat)(hm:dc.length=m)(s:Nat→AV)(h:dc.all (aA.below (H0.length+m))=true):an H0 s (H0++(dc++T)) (fun t=>qd (H0++(dc++T)) (H0.length+m) (s t)) (H0++dc):=by
 subst hm
 have:=an.xi (H0:=H0) s (H0++(dc++T)) (H0.length+dc.length) (by omega) (by simp) ?_
 ·rwa[show(H0++(dc++T)).take (H0.length+dc.length)=H0++dc from by rw[←List.append_assoc,←List.length_append,List.take_left]]at this
 ·intro i o hi ho
  rcases Nat.lt_or_ge i H0.length with h1|h1
  ·exact .inl (by rwa[List.getElem?_append_left h1]at ho)
  ·right
   rw[List.getElem?_append_right h1,List.getElem?_append_left (by omega)]at ho
   rw[List.all_eq_true]at h
   exact h o (List.mem_of_getElem? ho)
theorem cO.cut{I:(Nat→AV)→aa→Prop}{s:Nat→AV}{H:aa}(dc T:aa)(m:Nat)(hm:dc.length=m)(e:H=H0++(dc++T))(h:dc.all (aA.below (H0.length+m))=true)
  (hi:I (fun t=>qd H (H0.length+m) (s t)) (H0++dc)):∃s'' H'',an H0 s H s'' H''∧I s'' H'':=by
 subst e
 exact⟨_,_,an.cut dc T m hm s h,hi⟩
theorem cO.same{I:(Nat→AV)→aa→Prop}{s:Nat→AV}{H:aa}(h:I s H):∃s'' H'',an H0 s H s'' H''∧I s'' H'':=⟨s,H,.refl _ _,h⟩
end
mutual
inductive Sub:AV→AV→Prop
 |refl (x:AV):Sub x x
 |top (x:AV):Sub x .top
 |nil:Sub (.d (.v (.slice none 0 0))) (.d (.list false []))
 |cU:Sub .cU (.d (.list false []))
 |nn (es:List (List D)):Sub (.d (.list true es)) (.d (.list false es))
 |agg {cs cs':List AV} (h:j0 cs cs'):Sub (.agg cs) (.agg cs')
 |HP {x y:D} (h:∀N w v,RD N w x v→RD N w y v):Sub (.d x) (.d y)
inductive j0:List AV→List AV→Prop
 |nil:j0 [] []
 |cons {x y:AV} {xs ys:List AV} (h:Sub x y) (t:j0 xs ys):j0 (x::xs) (y::ys)
end
theorem j0.len:∀{cs cs':List AV},j0 cs cs'→cs.length=cs'.length
 |_,_,.nil=>rfl
 |_,_,.cons _ t=>by simp[j0.len t]
mutual
theorem Sub.ra{H:aa}{φ:aI}{N:Addr→Prop}{w:World}:∀{x y:AV} {v:Value},Sub x y→RA H φ N w x v→RA H φ N w y v
 |_,_,_,.refl _,h=>h
 |_,_,_,.top _,_=> .top _
 |_,_,v,.nil,h=>by rw[h.closed];exact .d (.nil _ _ fun _=>rfl)
 |_,_,_,.cU,h=>by cases h with|cU A=>exact .d (.nil _ _ fun _=>rfl)
 |_,_,_,.nn es,h=>by
  cases h with
  |d h=>
   cases h with
   |list nn es ad cap k c hc hk h hd=>exact .d (.list false es ad cap k c hc hk h hd)
 |_,_,_,.HP hs,h=>by
  cases h with
  |d h=>exact .d (hs _ _ _ h)
 |_,_,_,.agg hs,h=>by
  cases h with
  |agg cs vs hl hh=>exact .agg _ vs (hs.len.symm.trans hl) fun i h1 h2=>j0.ra hs i (by rw[hs.len];exact h1) h1 (hh i (by rw[hs.len];exact h1) h2)
theorem j0.ra{H:aa}{φ:aI}{N:Addr→Prop}{w:World}:∀{cs cs':List AV},j0 cs cs'→∀(i:Nat) (h1:i<cs.length) (h2:i<cs'.length) {v:Value},RA H φ N w (cs[i]) v→RA H φ N w (cs'[i]) v
 |_,_,.nil,i,h1,_,_,_=>by simp at h1
 |_,_,.cons h t,0,_,_,_,g=>Sub.ra h g
 |_,_,.cons h t,i+1,h1,h2,v,g=>by
  simp only[List.getElem_cons_succ]at g⊢
  exact j0.ra t i _ _ g
end
theorem ah.sub{P:Program}{f:FuncId}{args args':List AV}{H H':aa}{res:lK}(hs:j0 args args')(h:ah P f args' H res H'):ah P f args H res H':=
 fun φ N w vals hR hA=>h φ N w vals hR ⟨hs.len.symm.trans hA.1,fun i h1 h2=>hs.ra i (by rw[hs.len];exact h1) h1 (hA.2 i (by rw[hs.len];exact h1) h2)⟩
theorem ab.sub{P:Program}{f:FuncId}{args args':List AV}{H H':aa}{K:AV→aa→Prop}{KP:Value→aa→Prop}{r:AV}(hs:j0 args args')(h:ah P f args' H (.ok r) H')(hk:K r H'):ab P f args H K KP:=ab.ok (h.sub hs) hk
attribute [go_sem] Az
attribute [congr] Bb vK u9 yC sO
section
variable {P:Program} {hint:Nat→Bool} {n:Nat} {H0 H H':aa} {s:Nat→AV} {Q:aQ} {ops:Array Oper}
@[congr] theorem Hg {c:Code} (h:nf H=H'):cq P hint n H0 c Q s H=cq P hint n H0 c Q s H':=by rw[←h];rfl
@[congr] theorem Gy {l:List Oper} (h:nf H=H'):aM P hint n ops Q l s H=aM P hint n ops Q l s H':=by rw[←h];rfl
@[congr] theorem Gz {o:Oper} {K:AV→aa→Prop} {KP:Value→aa→Prop} (h:nf H=H'):aB P hint s H o K KP=aB P hint s H' o K KP:=by rw[←h];rfl
@[congr] theorem Hl {rest:List Oper} {d:Option Tmp} {r r':AV} (g:nf r=r') (h:nf H=H'):Fs P hint n ops Q rest s d r H=Fs P hint n ops Q rest s d r' H':=by rw[←g,←h];rfl
@[congr] theorem Gt {v:Value} (h:nf H=H'):Cg Q s v H=Cg Q s v H':=by rw[←h];rfl
@[congr] theorem GD {c:Code} {e:AX} (h:nf H=H'):iV P hint n H0 c Q e s H=iV P hint n H0 c Q e s H':=by rw[←h];rfl
@[congr] theorem EA {i:Nat} {e:AX} (h:nf H=H'):cI i Q e s H=cI i Q e s H':=by rw[←h];rfl
@[congr] theorem Ff {R:(Nat→AV)→aa→Prop} {e:AX} (h:nf H=H'):eF R Q e s H=eF R Q e s H':=by rw[←h];rfl
@[congr] theorem FC {c:Operand} {b:Bool} {R:(Nat→AV)→aa→Prop} {e:AX} (h:nf H=H'):nA c b R e s H=nA c b R e s H':=by rw[←h];rfl
@[congr] theorem EH {pR:Code} {b b':Nat} {R:(Nat→AV)→aa→Prop} {e:AX} (h:nf H=H'):nK P hint n H0 pR b b' R Q e s H=nK P hint n H0 pR b b' R Q e s H':=by rw[←h];rfl
@[congr] theorem Gw {id:Nat} {args args':List AV} {K:AV→aa→Prop} (g:nf args=args') (h:nf H=H'):tq P id args H K=tq P id args' H' K:=by rw[←g,←h];rfl
@[congr] theorem Fp {f:FuncId} {args args':List AV} {K:AV→aa→Prop} {KP:Value→aa→Prop} (g:nf args=args') (h:nf H=H'):ab P f args H K KP=ab P f args' H' K KP:=by rw[←g,←h];rfl
@[congr] theorem Gs {K:AV→aa→Prop} {r r':Value} (g:nf r=r') (h:nf H=H'):AD K H r=AD K H' r':=by rw[←g,←h];rfl
@[congr] theorem GC {rs:List Tmp} {res:lK} {H1:aa} {e:AX} (h:nf H=H'):ao rs H0 res H1 e s H=ao rs H0 res H1 e s H':=by rw[←h];rfl
@[congr] theorem Gx {d:Option Tmp} {v:AV} {t t':Nat} (h:nf t=t'):bl n s d v t=bl n s d v t':=by rw[←h];rfl
theorem vS(l:List Oper):aM P hint n ops Q l.toArray.toList s H=aM P hint n ops Q l s H:=rfl
@[congr] theorem GB {op:BinOp} {t:TypeId} {u u' v v':Value} {K:Value→Prop} (g:nf u=u') (h:nf v=v'):ck P op t u v K=ck P op t u' v' K:=by rw[←g,←h];rfl
@[congr] theorem GS {op:UnOp} {u u':Value} {K:Value→Prop} (g:nf u=u'):zA op u K=zA op u' K:=by rw[←g];rfl
@[congr] theorem EC {k:Nat} {lo lo':Option Int} {hi hi':Nat→Option Int} {K:AV→aa→Prop} {x x':AV} (f:nf lo=lo') (g:nf x=x') (h:nf H=H') (e:∀n,hi n=hi' n):cJ H k lo hi K x=cJ H' k lo' hi' K x':=by rw[←f,←g,←h,funext e];rfl
@[congr] theorem Ei {k:Nat} {lo lo' hi hi' mx mx':Option Int} {K:AV→aa→Prop} {x x':AV} (f:nf lo=lo') (f2:nf hi=hi') (f3:nf mx=mx') (g:nf x=x') (h:nf H=H'):er H k lo hi mx K x=er H' k lo' hi' mx' K x':=by rw[←f,←f2,←f3,←g,←h];rfl
@[congr] theorem DV {t:TypeId} {ok:Bool} {K:AV→aa→Prop} {v v':Option Value} (g:nf v=v') (h:nf H=H'):eP P t ok H K v=eP P t ok H' K v':=by rw[←g,←h];rfl
@[congr] theorem EG {e:TypeId} {k b:Nat} {news news':List (List D)} {K:AV→aa→Prop} {x x':AV} (f:nf news=news') (g:nf x=x') (h:nf H=H'):mm H e k b news K x=mm H' e k b news' K x':=by rw[←f,←g,←h];rfl
end
attribute [go_sem] vS
section
variable {P:Program} {hint:Nat→Bool} {s s':Nat→AV} {H:aa}
theorem zT{op:BinOp}{t:TypeId}{u v:Value}{K:Value→Prop}(h:ck P op t u v K):∃r,K r∧∀K',K' r→ck P op t u v K':=by
 unfold ck at h⊢
 repeat' (split at h)
 all_goals first|exact h.elim|exact⟨_,h,fun K' g=>g⟩|exact⟨_,h.2,fun K' g=>⟨h.1,g⟩⟩|exact⟨_,h.2.2,fun K' g=>⟨h.1,h.2.1,g⟩⟩|(obtain⟨r,h1,h2⟩:=h;first|exact⟨r,h2,fun K' g=>⟨r,h1,g⟩⟩|exact⟨r,h2,fun K' g=>by simp_all;exact⟨r,h1,g⟩⟩)
theorem Cs{op:UnOp}{u:Value}{K:Value→Prop}(h:zA op u K):∃r,K r∧∀K',K' r→zA op u K':=by
 cases op<;>cases u<;>first|exact h.elim|exact⟨_,h,fun K' g=>g⟩|exact⟨_,h.2,fun K' g=>⟨h.1,g⟩⟩
theorem kN{b:Builtin}{args:List Operand}{tys:List TypeId}{K:AV→aa→Prop}(h:bU P s H b args tys K):∃r H',K r H'∧∀K',K' r H'→bU P s H b args tys K':=by
 unfold bU at h⊢
 repeat' (split at h)
 all_goals first|exact h.elim|(exact(show False from by first|exact h.2|exact h.2.2|exact h.2.2.2|exact h.2.2.2.2).elim)|exact⟨_,_,h,fun K' g=>g⟩|exact⟨_,_,h.2,fun K' g=>⟨h.1,g⟩⟩|exact⟨_,_,h.2.2,fun K' g=>⟨h.1,h.2.1,g⟩⟩|exact⟨_,_,h.2.2.2,fun K' g=>⟨h.1,h.2.1,h.2.2.1,g⟩⟩|exact⟨_,_,h.2.2.2.2.2,fun K' g=>⟨h.1,h.2.1,h.2.2.1,h.2.2.2.1,h.2.2.2.2.1,g⟩⟩|exact⟨_,_,h.2.2.2.2.2.2,fun K' g=>⟨h.1,h.2.1,h.2.2.1,h.2.2.2.1,h.2.2.2.2.1,h.2.2.2.2.2.1,g⟩⟩
theorem vm{k:Nat}{lo:Option Int}{hi:Nat→Option Int}{x:AV}{K:AV→aa→Prop}(h:cJ H k lo hi K x):∃r H',K r H'∧∀K',K' r H'→cJ H k lo hi K' x:=by
 cases x with
 |d u=>
  cases u with
  |v _=>exact h.elim
  |list nn es=>
   simp only[cJ]at h⊢
   obtain⟨h0,h⟩:=h
   cases lo with
   |none=>exact h.elim
   |some l=>
    cases hq:hi es.length with
    |none=>rw[hq]at h;exact h.elim
    |some m=>rw[hq]at h;exact⟨_,_,h.2.2.2,fun K' g=>⟨h0,h.1,h.2.1,h.2.2.1,g⟩⟩
 |sl id ag off len=>
  simp only[cJ]at h⊢
  cases ho:H[id]? with
  |none=>rw[ho]at h;exact h.elim
  |some o=>
   rw[ho]at h
   cases lo with
   |none=>exact h.elim
   |some l=>
    cases hq:hi len with
    |none=>rw[hq]at h;exact h.elim
    |some m=>rw[hq]at h;exact⟨_,_,h.2.2.2.2.2,fun K' g=>⟨h.1,h.2.1,h.2.2.1,h.2.2.2.1,h.2.2.2.2.1,g⟩⟩
 |_=>exact h.elim
theorem tF{k:Nat}{lo hi mx:Option Int}{x:AV}{K:AV→aa→Prop}(h:er H k lo hi mx K x):∃r H',K r H'∧∀K',K' r H'→er H k lo hi mx K' x:=by
 cases x with
 |d u=>
  cases u with
  |v _=>exact h.elim
  |list nn es=>cases lo<;>cases hi<;>cases mx<;>first|exact h.2.elim|exact⟨_,_,h.2.2.2.2.2,fun K' g=>⟨h.1,h.2.1,h.2.2.1,h.2.2.2.1,h.2.2.2.2.1,g⟩⟩
 |_=>exact h.elim
theorem tN{n:Nat}{x:AV}{K:AV→aa→Prop}(h:wO H n K x):∃r H',K r H'∧∀K',K' r H'→wO H n K' x:=by
 cases x with
 |bW ds=>exact⟨_,_,h.2,fun K' g=>⟨h.1,g⟩⟩
 |_=>exact h.elim
theorem tj{t:TypeId}{ok:Bool}{v:Option Value}{K:AV→aa→Prop}(h:eP P t ok H K v):∃r H',K r H'∧∀K',K' r H'→eP P t ok H K' v:=by
 unfold eP at h⊢
 cases e:kA P t ok v with
 |none=>rw[e]at h;exact h.2.elim
 |some r=>rw[e]at h;exact⟨_,_,h.2,fun K' g=>⟨h.1,g⟩⟩
def jg(hint:Nat→Bool):Op→Bool
 | .next _ _=>false
 | .call c=>(match c.callee with| .value _=> !hint 3000000|_=>true)
 |_=>true
theorem CM{hi:Bool}{op:Op}{K:AV→aa→Prop}(hd:jg hint op=true)(h:fI P s H hi op K):∃r H',K r H'∧∀K',K' r H'→fI P s H hi op K':=by
 unfold fI at h⊢
 repeat' (split at h)
 all_goals first|exact h.elim|(cases hd;done)|(obtain⟨h1,id,e',h2,h3⟩:=h;exact⟨_,_,h3,fun K' g=>by rw[if_pos (by assumption)];exact⟨h1,id,e',h2,g⟩⟩)|(exact⟨_,_,h.2,fun K' g=>by rw[if_neg (by assumption)];exact⟨h.1,g⟩⟩)|(obtain⟨h1,h2,h⟩:=h;obtain⟨r,H',g1,g2⟩:=tN h;exact⟨r,H',g1,fun K' g=>⟨h1,h2,g2 K' g⟩⟩)|(exact(show False from by first|exact h.2|exact h.2.2|exact h.2.2.2|exact h.2.2.2.2).elim)|exact⟨_,_,h,fun K' g=>g⟩|exact⟨_,_,h.2,fun K' g=>⟨h.1,g⟩⟩|exact⟨_,_,h.2.2,fun K' g=>⟨h.1,h.2.1,g⟩⟩|exact⟨_,_,h.2.2.2,fun K' g=>⟨h.1,h.2.1,h.2.2.1,g⟩⟩|exact⟨_,_,h.2.2.2.2.2.2,fun K' g=>⟨h.1,h.2.1,h.2.2.1,h.2.2.2.1,h.2.2.2.2.1,h.2.2.2.2.2.1,g⟩⟩|exact⟨_,_,h.2.2.2.2,fun K' g=>⟨h.1,h.2.1,h.2.2.1,h.2.2.2.1,g⟩⟩|exact kN h|
  (obtain⟨r,h1,h2⟩:=zT h;exact⟨_,_,h1,fun K' g=>h2 _ g⟩)|(obtain⟨r,h1,h2⟩:=Cs h;exact⟨_,_,h1,fun K' g=>h2 _ g⟩)|exact vm h|exact tF h|exact tj h|(obtain⟨h1,h2,h⟩:=h;obtain⟨r,H',g1,g2⟩:=tN h;exact⟨r,H',g1,fun K' g=>⟨h1,h2,g2 K' g⟩⟩)|skip
 all_goals first|(exfalso;simp_all;done)|exact⟨_,_,h,fun K' g=>by rw[if_pos (by assumption)];exact g⟩|exact⟨_,_,h,fun K' g=>by rw[if_neg (by assumption)];exact g⟩|exact⟨_,_,h.2,fun K' g=>by rw[if_pos (by assumption)];exact⟨h.1,g⟩⟩|exact⟨_,_,h.2,fun K' g=>⟨h.1,by first|(rw[if_pos (by assumption)];exact g)|(rw[if_neg (by assumption)];exact g)⟩⟩|
  exact⟨_,_,h.2,fun K' g=>by rw[if_neg (by assumption)];exact⟨h.1,by first|(rw[if_pos (by assumption)];exact g)|(rw[if_neg (by assumption)];exact g)⟩⟩|trace_state
theorem ef{o:Oper}{K:AV→aa→Prop}(hdo:jg hint o.op=true)(h:aB P hint s H o K (fun _ _=>False)):∃r H',K r H'∧∀K' KP',K' r H'→aB P hint s H o K' KP':=by
 unfold aB at h⊢
 split at h
 ·split at h<;>exact h.elim
 ·split at h
  ·split at h
   ·obtain⟨res,H',hd,h⟩:=h
    cases res with
    |ok r=>exact⟨r,H',h,fun K' KP' g=>⟨.ok r,H',hd,g⟩⟩
    |panic v=>exact h.elim
   ·exfalso
    have h1:=h.1
    clear h
    simp_all [jg]
   ·exact h.elim
  ·obtain⟨r,H',h1,h2⟩:=kN h
   exact⟨r,H',h1,fun K' KP' g=>h2 _ g⟩
  ·exact h.elim
 ·obtain⟨r,H',h1,h2⟩:=CM hdo h
  exact⟨r,H',h1,fun K' KP' g=>h2 _ g⟩
theorem sM{x:Operand}(h:∀t,x= .tmp t→s t=s' t):ai s x=ai s' x:=by
 cases x with
 |tmp t=>exact h t rfl
 |_=>rfl
def jj(o:Oper):List Tmp:=o.op.operands.toList.filterMap fun| .tmp t=>some t|_=>none
theorem vR{o:Oper}(h:∀t∈jj o,s t=s' t)(x:Operand)(hx:x∈o.op.operands):ai s x=ai s' x:=
 sM fun t ht=>h t (by subst ht;exact List.mem_filterMap.2 ⟨_,Array.mem_toList_iff.2 hx,rfl⟩)
theorem qV{parts:Array (Nat×Operand)}(h:∀p∈parts.toList,ai s p.2=ai s' p.2):bV s parts=bV s' parts:=by
 unfold bV
 exact List.map_congr_left fun p hp=>by rw[h p hp]
theorem fY{k:IntKind}:∀{xs:List Operand},(∀x∈xs,ai s x=ai s' x)→bS s k xs=bS s' k xs
 |[],_=>rfl
 |x::xs,h=>by
  unfold bS
  rw[h x (by simp),fY fun y hy=>h y (by simp[hy])]
theorem fm{b:Builtin}{args:List Operand}{tys:List TypeId}{K:AV→aa→Prop}(h:∀x∈args,ai s x=ai s' x):bU P s H b args tys K=bU P s' H b args tys K:=by
 unfold bU
 split
 ·rw[h _ (by simp)]
 ·rw[h _ (by simp),h _ (by simp)]
 ·rw[h _ (by simp)]
 ·rw[h _ (by simp),h _ (by simp)]
 ·rename_i x xs
  rw[h x (by simp)]
  have e:∀k,bS s k xs=bS s' k xs:=fun k=>fY fun y hy=>h y (by simp[hy])
  simp only[e]
 ·rename_i x xs
  rw[h x (by simp)]
  have e:∀k,bS s k xs=bS s' k xs:=fun k=>fY fun y hy=>h y (by simp[hy])
  simp only[e]
 ·rfl
theorem xM{hi:Bool}{op:Op}{K:AV→aa→Prop}(h:∀x∈op.operands,ai s x=ai s' x):fI P s H hi op K=fI P s' H hi op K:=by
 unfold fI
 split
 all_goals first
  |rfl
  |(have e:=qV (s:=s) (s':=s') fun p hp=>h p.2 (by simp only[Op.operands,List.mem_toArray,List.mem_map];exact⟨p,hp,rfl⟩);simp only[e];done)
  |exact fm fun x hx=>h x (by simp only[Op.operands,Call.operands];exact Array.mem_append.2 (.inr (Array.mem_toList_iff.1 hx)))
  |(split
    ·exact fm fun x hx=>h x (by simp only[Op.operands,Call.operands];exact Array.mem_append.2 (.inr (Array.mem_toList_iff.1 hx)))
    ·rfl)
  |(rename_i x lo hi' mx
    have e0:ai s x=ai s' x:=h _ (by simp[Op.operands])
    have e2:aT s (some hi')=aT s' (some hi'):=by simp only[aT];rw[h hi' (by simp[Op.operands])]
    have e3:aT s (some mx)=aT s' (some mx):=by simp only[aT];rw[h mx (by simp[Op.operands])]
    have e1:aT s lo=aT s' lo:=by
     cases lo with
     |none=>rfl
     |some y=>simp only[aT];rw[h y (by simp[Op.operands])]
    rw[e0,e1,e2,e3];done)
  |(rename_i x xT t ok;rw[h x (by simp[Op.operands])];done)
  |(rename_i x lo hi'
    have e0:ai s x=ai s' x:=h _ (by simp[Op.operands])
    have e1:aT s lo=aT s' lo:=by
     cases lo with
     |none=>rfl
     |some y=>simp only[aT];rw[h y (by simp[Op.operands])]
    have e2:∀n,cv s n hi'=cv s' n hi':=by
     intro n
     cases hi' with
     |none=>rfl
     |some y=>simp only[cv];rw[h y (by simp[Op.operands])]
    first|(simp only[e0,e1,e2];done)|(simp only[e0,e1,funext e2];done))
  |(simp[Op.operands]at h;simp only[h];done)
  |(rename_i caps;rw[List.map_congr_left fun x hx=>h x (by simp only[Op.operands];exact Array.mem_append.2 (.inr (Array.mem_toList_iff.1 hx)))];done)
  |skip
 all_goals
  rename_i x lo hi'
  have e0:ai s x=ai s' x:=h _ (by simp[Op.operands])
  have e1:aT s lo=aT s' lo:=by
   cases lo with
   |none=>rfl
   |some y=>simp only[aT];rw[h y (by simp[Op.operands])]
  have e2:∀n,cv s n hi'=cv s' n hi':=by
   intro n
   cases hi' with
   |none=>rfl
   |some y=>simp only[cv];rw[h y (by simp[Op.operands])]
  simp only[e0,e1,e2,AU]
theorem fK{o:Oper}{K:AV→aa→Prop}{KP:Value→aa→Prop}(h:∀t∈jj o,s t=s' t):aB P hint s H o K KP=aB P hint s' H o K KP:=by
 have h':=vR h
 unfold aB
 split
 ·rename_i x hx
  rw[h' x (by rw[hx];simp[Op.operands])]
 ·rename_i c hc
  have hm:∀x∈c.operands,ai s x=ai s' x:=fun x hx=>h' x (by rw[hc];exact hx)
  split
  ·rename_i f hf
   have e1:ai s f=ai s' f:=hm f (by simp[Call.operands,hf])
   have e2:c.args.toList.map (ai s)=c.args.toList.map (ai s'):=List.map_congr_left fun x hx=>hm x (by simp only[Call.operands];exact Array.mem_append.2 (.inr (Array.mem_toList_iff.1 hx)))
   rw[e1,e2]
  ·exact fm fun x hx=>hm x (by simp only[Call.operands];exact Array.mem_append.2 (.inr (Array.mem_toList_iff.1 hx)))
  ·rfl
 ·exact xM h'
end
def aY(ops:Array Oper)(j:Nat):Option Tmp:=(ops[j]?).bind (·.dst)
def aO(o:Oper)(j:Nat):Bool:=o.after.toList.any fun e=>Region.binds .any e&&e.on==j
def ca(ops:Array Oper):Nat→Nat→Nat→Bool
 |0,_,_=>false
 |fuel+1,i,j=>match ops[i]? with
  |none=>false
  |some o=>aO o j||(List.range i).any fun k=>aO o k&&ca ops fuel k j
def dA(hint:Nat→Bool)(ops:Array Oper):Bool:=(List.range ops.size).all fun i=>match ops[i]? with
 |none=>true
 |some o=>(o.after.toList.all fun e=> !Region.binds .any e||decide (e.on<i))&&((jj o).all fun t=>(List.range ops.size).all fun j=> !(aY ops j==some t)||(aO o j||(match ops[j]? with|some oj=>aO oj i|none=>false)))&&
  (match o.guard with|some (j,_)=>aO o j|none=>true)&&jg hint o.op&&((List.range ops.size).all fun j=>j==i||(aY ops i).isNone|| !(aY ops j==aY ops i))
structure nU (hint:Nat→Bool) (ops:Array Oper):Prop where
 down:∀(i:Nat) (o:Oper),ops[i]?=some o→∀e∈o.after,Region.binds .any e=true→e.on<i
 reads:∀(i:Nat) (o:Oper),ops[i]?=some o→∀t∈jj o,∀j,aY ops j=some t→aO o j=true∨∃oj,ops[j]?=some oj∧aO oj i=true
 guard:∀(i:Nat) (o:Oper),ops[i]?=some o→∀j w,o.guard=some (j,w)→aO o j=true
 GH:∀(i:Nat) (o:Oper),ops[i]?=some o→jg hint o.op=true
 once:∀(i j:Nat) (t:Tmp),aY ops i=some t→aY ops j=some t→i=j
theorem dM{ops:Array Oper}{j:Nat}{t:Tmp}(h:aY ops j=some t):j<ops.size:=by
 unfold aY at h
 obtain⟨o,ho,_⟩:=Option.bind_eq_some_iff.1 h
 exact(Array.getElem?_eq_some_iff.1 ho).1
theorem cH{hint:Nat→Bool}{ops:Array Oper}(h:dA hint ops=true):nU hint ops:=by
 unfold dA at h
 rw[List.all_eq_true]at h
 have key:∀i o,ops[i]?=some o→((o.after.toList.all fun e=> !Region.binds .any e||decide (e.on<i))=true∧((jj o).all fun t=>(List.range ops.size).all fun j=> !(aY ops j==some t)||(aO o j||(match ops[j]? with|some oj=>aO oj i|none=>false)))=true∧
   (match o.guard with|some (j,_)=>aO o j|none=>true)=true∧jg hint o.op=true)∧((List.range ops.size).all fun j=>j==i||(aY ops i).isNone|| !(aY ops j==aY ops i))=true:=by
  intro i o ho
  have:=h i (List.mem_range.2 (Array.getElem?_eq_some_iff.1 ho).1)
  simp only[ho,Bool.and_eq_true]at this
  exact⟨⟨this.1.1.1.1,this.1.1.1.2,this.1.1.2,this.1.2⟩,this.2⟩
 refine⟨fun i o ho e he hbe=>?_,fun i o ho t ht j hj=>?_,fun i o ho j w hg=>?_,fun i o ho=>(key i o ho).1.2.2.2,fun i j t hi hj=>?_⟩
 ·have:=(key i o ho).1.1
  rw[List.all_eq_true]at this
  simpa[hbe]using this e (Array.mem_toList_iff.2 he)
 ·have:=(key i o ho).1.2.1
  rw[List.all_eq_true]at this
  have:=this t ht
  rw[List.all_eq_true]at this
  have:=this j (List.mem_range.2 (dM hj))
  have hjl:=dM hj
  have hoj:ops[j]?=some ops[j]:=by simp[hjl]
  rw[hj,hoj]at this
  simp only[beq_self_eq_true,Bool.not_true,Bool.false_or,Bool.or_eq_true]at this
  rcases this with h|h
  ·exact .inl h
  ·exact .inr ⟨_,hoj,h⟩
 ·have:=(key i o ho).1.2.2.1
  simpa[hg]using this
 ·obtain⟨o,ho,_⟩:=Option.bind_eq_some_iff.1 (show(ops[i]?).bind (·.dst)=some t from hi)
  have:=(key i o ho).2
  rw[List.all_eq_true]at this
  have:=this j (List.mem_range.2 (dM hj))
  simp[hi,hj]at this
  exact this.symm
section
variable (P:Program) (hint:Nat→Bool) (n:Nat) (ops:Array Oper)
def fT(H:aa)(s:Nat→AV)(o:Oper)(r:AV):Prop:=match o.guard with
 |none=>∀K KP,K r H→aB P hint s H o K KP
 |some (j,want)=>∃b,eH ops s n j want=some b∧if b=true then ∀K KP,K r H→aB P hint s H o K KP else r= .bq []
def bG(Q:aQ):List Oper→(Nat→AV)→aa→Prop
 |[],s,H=>Q .normal s H
 |o::rest,s,H=>cy P hint n ops (fun _ _ _=>False) o (fun s' H'=>H'=H∧bG Q rest s' H) s H
def a8(s:Nat→AV)(rs:Nat→AV):Nat→(Nat→AV)
 |0=>s
 |k+1=>bl n (a8 s rs k) (aY ops k) (rs k)
end
section
variable (P:Program) (hint:Nat→Bool) (n:Nat) (ops:Array Oper)
def sa(Q:aQ)(l:List Oper):aQ:=fun e s H=>match e with| .normal=>aM P hint n ops Q l s H|_=>False
def ct(Q:aQ):Nat→List Oper→(Nat→AV)→aa→Prop
 |0,l,s,H=>aM P hint n ops Q l s H
 |_+1,[],s,H=>aM P hint n ops Q [] s H
 |m+1,o::rest,s,H=>cy P hint n ops (fun _ _ _=>False) o (fun s' H'=>H'=H∧ct Q m rest s' H) s H
end
theorem mi{P:Program}{hint:Nat→Bool}{n:Nat}{ops:Array Oper}{Q:aQ}:∀(m:Nat) (l:List Oper) (s:Nat→AV) (H:aa),ct P hint n ops Q m l s H=bG P hint n ops (sa P hint n ops Q (l.drop m)) (l.take m) s H
 |0,l,s,H=>by simp[ct,bG,sa]
 |m+1,[],s,H=>by simp[ct,bG,sa]
 |m+1,o::rest,s,H=>by
  have e:∀s' H,ct P hint n ops Q m rest s' H=_:=fun s' H=>mi m rest s' H
  simp only[ct,List.drop_succ_cons,List.take_succ_cons,bG,e]
theorem kZ{P:Program}{hint:Nat→Bool}{n:Nat}{ops:Array Oper}{Q Q':aQ}(hq:∀s H,Q .normal s H→Q' .normal s H):∀(l:List Oper) (s:Nat→AV) {H:aa},bG P hint n ops Q l s H→bG P hint n ops Q' l s H
 |[],s,H,h=>hq _ _ h
 |o::rest,s,H,h=>by
  unfold bG at h⊢
  exact gN (fun _ _ _ h=>h) (fun s' H' h'=>⟨h'.1,kZ hq rest s' h'.2⟩) h
section
variable {P:Program} {hint:Nat→Bool} {n:Nat} {ops:Array Oper} {H:aa} {Q:aQ}
theorem fT.op{s:Nat→AV}{o:Oper}{r:AV}(h:fT P hint n ops H s o r){K:(Nat→AV)→aa→Prop}(hk:K (bl n s o.dst r) H):cy P hint n ops Q o K s H:=by
 unfold fT at h
 unfold cy
 split at h
 ·rename_i hg
  try simp only[hg]
  exact h (fun r H'=>K (bl n s o.dst r) H') _ hk
 ·rename_i j want hg
  obtain⟨b,hb,h⟩:=h
  simp only[hg,hb]
  split at h
  ·rw[if_pos (by assumption)];exact h (fun r H'=>K (bl n s o.dst r) H') _ hk
  ·rw[if_neg (by assumption)];rw[h]at hk;exact hk
theorem fT.congr{s s':Nat→AV}{o:Oper}{r:AV}(h:fT P hint n ops H s o r)(h1:∀t∈jj o,s t=s' t)(h2:∀j w,o.guard=some (j,w)→∀d,aY ops j=some d→s d=s' d):fT P hint n ops H s' o r:=by
 unfold fT at h⊢
 split at h
 ·rename_i hg
  try simp only[hg]
  intro K KP hk
  rw[←fK h1]
  exact h K KP hk
 ·rename_i j want hg
  try simp only[hg]
  obtain⟨b,hb,h⟩:=h
  refine⟨b,?_,?_⟩
  ·rw[←hb]
   unfold eH
   have:=h2 j want hg
   unfold aY at this
   cases hd:(ops[j]?).bind (·.dst)with
   |none=>rfl
   |some d=>simp only[this d hd]
  ·split at h
   ·rw[if_pos (by assumption)]
    intro K KP hk
    rw[←fK h1]
    exact h K KP hk
   ·rw[if_neg (by assumption)];exact h
theorem jS(hdt:∀(i:Nat) (o:Oper),ops[i]?=some o→jg hint o.op=true)(m:Nat)(hm:m≤ops.size)(s0:Nat→AV)(rs0:Nat→AV):∀(l:List Oper) (k:Nat),l=(ops.toList.take m).drop k→k≤m→bG P hint n ops Q l (a8 n ops s0 rs0 k) H→
  ∃rs,(∀i,i<k→rs i=rs0 i)∧(∀i o,k≤i→i<m→ops[i]?=some o→fT P hint n ops H (a8 n ops s0 rs i) o (rs i))∧Q .normal (a8 n ops s0 rs m) H
 |[],k,hl,hk,h=>by
  have:m≤k:=by have:=congrArg List.length hl;simp at this;omega
  have hk':k=m:=by omega
  subst hk'
  exact⟨rs0,fun _ _=>rfl,fun i o hi hi2 ho=>absurd hi2 (by omega),h⟩
 |o::rest,k,hl,hk,h=>by
  have hlt:k<m:=by have:=congrArg List.length hl;simp at this;omega
  have ho:ops[k]?=some o:=by
   have:((ops.toList.take m).drop k)[0]?=some o:=by rw[←hl];rfl
   simpa[List.getElem?_take,hlt]using this
  have hrest:rest=(ops.toList.take m).drop (k+1):=by rw[←List.drop_drop];rw[←hl];rfl
  have hdst:aY ops k=o.dst:=by simp[aY,ho]
  have step:∃r,fT P hint n ops H (a8 n ops s0 rs0 k) o r∧bG P hint n ops Q rest (bl n (a8 n ops s0 rs0 k) o.dst r) H:=by
   unfold bG cy at h
   split at h
   ·rename_i hg
    obtain⟨r,H',⟨rfl,hr⟩,hdet⟩:=ef (hdt k o ho) h
    exact⟨r,by unfold fT;simp only[hg];exact fun K KP hk=>hdet K KP hk,hr⟩
   ·rename_i j want hg
    split at h
    ·rename_i b hb
     split at h
     ·rename_i hbw
      obtain⟨r,H',⟨rfl,hr⟩,hdet⟩:=ef (hdt k o ho) h
      exact⟨r,by unfold fT;simp only[hg];exact⟨b,hb,by rw[if_pos hbw];exact fun K KP hk=>hdet K KP hk⟩,hr⟩
     ·rename_i hbw
      exact⟨.bq [],by unfold fT;simp only[hg];exact⟨b,hb,by simp[hbw]⟩,h.2⟩
    ·exact h.elim
  obtain⟨r,hr,hnext⟩:=step
  let rs1:Nat→AV:=fun i=>if i=k then r else rs0 i
  have hst:∀i,i≤k→a8 n ops s0 rs1 i=a8 n ops s0 rs0 i:=by
   intro i
   induction i with
   |zero=>intro _;rfl
   |succ i ih=>
    intro hi
    simp only[a8,ih (by omega)]
    have:rs1 i=rs0 i:=by show(if i=k then r else rs0 i)=_;rw[if_neg (by omega)]
    rw[this]
  have hk1:rs1 k=r:=by show(if k=k then r else _)=r;rw[if_pos rfl]
  have h':bG P hint n ops Q rest (a8 n ops s0 rs1 (k+1)) H:=by
   simp only[a8,hst k (Nat.le_refl _),hk1,hdst]
   exact hnext
  obtain⟨rs,h1,h2,h3⟩:=jS hdt m hm s0 rs1 rest (k+1) hrest hlt h'
  have hst2:∀i,i≤k→a8 n ops s0 rs i=a8 n ops s0 rs0 i:=by
   intro i
   induction i with
   |zero=>intro _;rfl
   |succ i ih=>
    intro hi
    simp only[a8,ih (by omega)]
    have e1:rs i=rs1 i:=h1 i (by omega)
    have e2:rs1 i=rs0 i:=by show(if i=k then r else rs0 i)=_;rw[if_neg (by omega)]
    rw[e1,e2]
  refine⟨rs,fun i hi=>?_,fun i o' hi hi2 ho'=>?_,h3⟩
  ·rw[h1 i (by omega)];show(if i=k then r else rs0 i)=_;rw[if_neg (by omega)]
  ·rcases Nat.lt_or_ge k i with hki|hki
   ·exact h2 i o' hki hi2 ho'
   ·obtain rfl:i=k:=by omega
    rw[ho]at ho'
    cases ho'
    rw[hst2 i (Nat.le_refl _),h1 i (by omega),hk1]
    exact hr
theorem lN{p q:Nat→Bool}{i:Nat}(hpq:∀j,p j=true→q j=true)(hp:p i=false)(hq:q i=true):∀l:List Nat,i∈l→l.countP p<l.countP q
 |[],h=>by simp at h
 |x::l,h=>by
  have hle:l.countP p≤l.countP q:=List.countP_mono_left fun j _=>hpq j
  rw[List.countP_cons,List.countP_cons]
  by_cases hx:i=x
  ·subst hx
   simp[hp,hq];omega
  ·have:=lN hpq hp hq l (by simpa[hx]using h)
   by_cases hpx:p x=true
   ·simp[hpx,hpq x hpx];omega
   ·simp[hpx];omega
theorem qg{listed:Array Bool}{o:Oper}{j:Nat}(h1:(o.after.all fun e=> !Region.binds .any e||listed.getD e.on false)=true)(h2:aO o j=true):listed.getD j false=true:=by
 unfold aO at h2
 rw[List.any_eq_true]at h2
 obtain⟨e,he,h2⟩:=h2
 rw[Array.all_eq_true_iff_forall_mem]at h1
 have:=h1 e (Array.mem_toList_iff.1 he)
 simp only[Bool.and_eq_true,beq_iff_eq]at h2
 simpa[h2.1,h2.2]using this
theorem eQ{m0:Nat}(hc:nU hint ops)(htl:∀i o,ops[i]?=some o→m0<i→aO o (i-1)=true):∀{fuel:Nat} {listed:Array Bool} {s:Nat→AV} {H:aa},listed.size=ops.size→∀m,m0≤m→m≤ops.size→
  (∀i,i<m→listed.getD i true=true)→(∀i,m≤i→i<ops.size→listed.getD i false=false)→aM P hint n ops Q (ops.toList.drop m) s H→ops.size-m≤fuel→eN P hint n ops Q fuel listed s H:=by
 intro fuel
 induction fuel with
 |zero=>
  intro listed s H hsz m hm0 hm hall hno h hf
  have:m=ops.size:=by omega
  subst this
  rw[List.drop_of_length_le (by simp)]at h
  refine⟨?_,h⟩
  unfold Region.ready
  rw[List.filter_eq_nil_iff]
  intro i hi
  simp only[hall i (List.mem_range.1 hi),Bool.not_true,Bool.false_and,Bool.false_eq_true,not_false_eq_true]
 |succ fuel ih=>
  intro listed s H hsz m hm0 hm hall hno h hf
  rcases Nat.lt_or_ge m ops.size with hlt|hge
  ·have hget:ops[m]?=some ops[m]:=by simp[hlt]
   have hun:listed.getD m true=false:=by
    have:=hno m (Nat.le_refl _) hlt
    simpa[Array.getD,show m<listed.size by omega]using this
   have hd:ops.toList.drop m=ops[m]::ops.toList.drop (m+1):=by
    rw[List.drop_eq_getElem_cons (by simpa using hlt)];simp
   rw[hd]at h
   refine⟨fun hr=>?_,fun i hi=>?_⟩
   ·exfalso
    have:m∈Region.ready .any ops listed:=by
     unfold Region.ready
     rw[List.mem_filter]
     refine⟨List.mem_range.2 hlt,?_⟩
     simp only[hun,hget,Bool.not_false,Bool.true_and,Option.map_some,Option.getD_some]
     rw[Array.all_eq_true_iff_forall_mem]
     intro e he
     cases hbe:Region.binds .any e
     ·simp
     have hl:=hc.down m _ hget e he hbe
     have:=hall e.on hl
     have:listed.getD e.on false=true:=by simpa[Array.getD,show e.on<listed.size by omega]using this
     simp[this]
    rw[hr]at this
    simp at this
   ·unfold Region.ready at hi
    rw[List.mem_filter]at hi
    obtain⟨hi,hrd⟩:=hi
    have hi:=List.mem_range.1 hi
    have hgeti:ops[i]?=some ops[i]:=by simp[hi]
    simp only[hgeti,Option.map_some,Option.getD_some,Bool.and_eq_true,Bool.not_eq_true']at hrd
    obtain⟨hu,haft⟩:=hrd
    have him:i=m:=by
     rcases Nat.lt_trichotomy i m with h1|h1|h1
     ·rw[hall i h1]at hu;cases hu
     ·exact h1
     ·have:=qg haft (htl i _ hgeti (by omega))
      rw[hno (i-1) (by omega) (by omega)]at this
      cases this
    subst him
    simp only[hget]
    have hset:∀j b,(listed.setIfInBounds i true).getD j b=if j=i then true else listed.getD j b:=by
     intro j b
     simp only[Array.getD_eq_getD_getElem?,Array.getElem?_setIfInBounds]
     by_cases e:i=j
     ·subst e;simp[hsz,hi]
     ·rw[if_neg e,if_neg (Ne.symm e)]
    refine gN (fun _ _ _ h=>h) (fun s' H' h'=>?_) h
    refine ih (by simpa using hsz) (i+1) (by omega) hi (fun j hj=>?_) (fun j hj hj2=>?_) h' (by omega)
    ·rw[hset]
     by_cases e:j=i
     ·rw[if_pos e]
     ·rw[if_neg e];exact hall j (by omega)
    ·rw[hset,if_neg (by omega)]
     exact hno j (by omega) hj2
  ·have:m=ops.size:=by omega
   subst this
   rw[List.drop_of_length_le (by simp)]at h
   refine⟨fun _=>h,fun i hi=>?_⟩
   unfold Region.ready at hi
   rw[List.mem_filter]at hi
   obtain⟨hi,hrd⟩:=hi
   rw[hall i (List.mem_range.1 hi)]at hrd
   simp at hrd
theorem et{L:Nat→Bool}(hcl:∀j oj i,ops[j]?=some oj→L j=true→aO oj i=true→L i=true):∀(fuel:Nat) (i:Nat) (o:Oper),ops[i]?=some o→
  (∀j,aO o j=true→L j=true)→∀j,ca ops fuel i j=true→L j=true
 |0,i,o,ho,hb,j,h=>by simp[ca]at h
 |fuel+1,i,o,ho,hb,j,h=>by
  simp only[ca,ho,Bool.or_eq_true,List.any_eq_true,Bool.and_eq_true]at h
  rcases h with h|⟨k,_,h1,h2⟩
  ·exact hb j h
  ·have hk:=hb k h1
   cases hok:ops[k]? with
   |none=>cases fuel<;>simp[ca,hok]at h2
   |some ok=>exact et hcl fuel k ok hok (fun j' hj'=>hcl k ok j' hok hk hj') j h2
theorem jO{listed:Array Bool}(hcl:∀j oj i,ops[j]?=some oj→listed.getD j false=true→aO oj i=true→listed.getD i false=true)(fuel:Nat)(i:Nat)(o:Oper)(ho:ops[i]?=some o)
  (hb:∀j,aO o j=true→listed.getD j false=true) (j:Nat) (h:ca ops fuel i j=true):listed.getD j false=true:=et (L:=fun c=>listed.getD c false) hcl fuel i o ho hb j h
theorem qX(hc:nU hint ops)(m:Nat)(hm:m≤ops.size)(htl:∀i o,ops[i]?=some o→(i=m→∀j,j<m→ca ops 12 i j=true)∧(m<i→aO o (i-1)=true))(s:Nat→AV)(rs:Nat→AV)(hs:∀i o,i<m→ops[i]?=some o→fT P hint n ops H (a8 n ops s rs i) o (rs i))(hQ:aM P hint n ops Q (ops.toList.drop m) (a8 n ops s rs m) H):
  ∀(fuel:Nat) (listed:Array Bool) (s':Nat→AV),listed.size=ops.size→(List.range ops.size).countP (fun j=> !listed.getD j true)≤fuel→
   (∀t j,aY ops j=some t→s' t=if listed.getD j false=true then(if t<n then rs j else .top)else s t)→(∀t,(∀j,aY ops j≠some t)→s' t=s t)→
   (∀j oj i,ops[j]?=some oj→listed.getD j false=true→aO oj i=true→listed.getD i false=true)→(∀i,m≤i→i<ops.size→listed.getD i false=false)→eN P hint n ops Q fuel listed s' H:=by
 have st_no:∀k t,(∀j,j<k→aY ops j≠some t)→a8 n ops s rs k t=s t:=by
  intro k t
  induction k with
  |zero=>intro _;rfl
  |succ k ih=>
   intro h
   simp only[a8]
   cases hd:aY ops k with
   |none=>exact ih fun j hj=>h j (by omega)
   |some d=>
    simp only[bl]
    have:t≠d:=fun e=>h k (by omega) (by rw[hd,e])
    rw[if_neg this]
    exact ih fun j hj=>h j (by omega)
 have st_dst:∀k t j,aY ops j=some t→j<k→a8 n ops s rs k t=if t<n then rs j else .top:=by
  intro k t j hj
  induction k with
  |zero=>intro h;omega
  |succ k ih=>
   intro h
   simp only[a8]
   by_cases e:j=k
   ·subst e
    rw[hj]
    simp only[bl,if_pos]
   ·have:=ih (by omega)
    cases hd:aY ops k with
    |none=>exact this
    |some d=>
     simp only[bl]
     have hne:t≠d:=fun e'=>e (hc.once j k t hj (by rw[hd,e']))
     rw[if_neg hne]
     exact this
 have bind_of:∀(listed:Array Bool) (o:Oper) (j:Nat),(o.after.all fun e=> !Region.binds .any e||listed.getD e.on false)=true→aO o j=true→listed.getD j false=true:=by
  intro listed o j h1 h2
  unfold aO at h2
  rw[List.any_eq_true]at h2
  obtain⟨e,he,h2⟩:=h2
  rw[Array.all_eq_true_iff_forall_mem]at h1
  have:=h1 e (Array.mem_toList_iff.1 he)
  simp only[Bool.and_eq_true,beq_iff_eq]at h2
  simpa[h2.1,h2.2]using this
 have fin:∀(listed:Array Bool) (s':Nat→AV),(∀i,i<m→listed.getD i true=true)→(∀i,m≤i→i<ops.size→listed.getD i false=false)→listed.size=ops.size→
   (∀t j,aY ops j=some t→s' t=if listed.getD j false=true then(if t<n then rs j else .top)else s t)→(∀t,(∀j,aY ops j≠some t)→s' t=s t)→s'=a8 n ops s rs m:=by
  intro listed s' hall hno hsz h1 h2
  funext t
  by_cases hd:∃j,aY ops j=some t
  ·obtain⟨j,hj⟩:=hd
   have hjl:=dM hj
   rcases Nat.lt_or_ge j m with hjm|hjm
   ·have:listed.getD j false=true:=by
     have:=hall j hjm
     simpa[Array.getD,show j<listed.size by omega]using this
    rw[h1 t j hj,if_pos this,st_dst _ t j hj hjm]
   ·rw[h1 t j hj,if_neg (by simp[hno j hjm hjl]),st_no m t fun j' hj' hd'=>by
     have:=hc.once j' j t hd' hj
     omega]
  ·have hd':∀j,aY ops j≠some t:=fun j hj=>hd ⟨j,hj⟩
   rw[h2 t hd',st_no _ t fun j _=>hd' j]
 intro fuel
 induction fuel with
 |zero=>
  intro listed s' hsz hcnt h1 h2 hcl hno
  have hall:∀i,i<ops.size→listed.getD i true=true:=by
   intro i hi
   have h0:(List.range ops.size).countP (fun j=> !listed.getD j true)=0:=by omega
   rw[List.countP_eq_zero]at h0
   simpa using h0 i (List.mem_range.2 hi)
  have hs':=fin listed s' (fun i hi=>hall i (by omega)) hno hsz h1 h2
  subst hs'
  exact eQ hc (fun i o ho hi=>(htl i o ho).2 hi) hsz m (Nat.le_refl _) hm (fun i hi=>hall i (by omega)) (fun i hi hi2=>hno i hi hi2) hQ (by
   rcases Nat.lt_or_ge m ops.size with h|h
   ·have e1:=hall m h
    have e2:=hno m (Nat.le_refl _) h
    simp[Array.getD,show m<listed.size by omega]at e1 e2
    rw[e1]at e2
    cases e2
   ·omega)
 |succ fuel ih=>
  intro listed s' hsz hcnt h1 h2 hcl hno
  by_cases hpre:∀i,i<m→listed.getD i true=true
  ·have hs':=fin listed s' hpre hno hsz h1 h2
   subst hs'
   refine eQ hc (fun i o ho hi=>(htl i o ho).2 hi) hsz m (Nat.le_refl _) hm hpre hno hQ ?_
   have hsub:(List.range ops.size).countP (fun j=>decide (m≤j))≤(List.range ops.size).countP (fun j=> !listed.getD j true):=by
    refine List.countP_mono_left fun j hj hmj=>?_
    have hj:=List.mem_range.1 hj
    have:=hno j (by simpa using hmj) hj
    simp[Array.getD,show j<listed.size by omega]at this⊢
    exact this
   have hcm:∀N,m≤N→(List.range N).countP (fun j=>decide (m≤j))=N-m:=by
    intro N hN
    induction N with
    |zero=>simp
    |succ N ihN=>
     rw[List.range_succ,List.countP_append,List.countP_singleton]
     by_cases e:m≤N
     ·rw[ihN e];simp[e];omega
     ·have e':m=N+1:=by omega
      have:(List.range N).countP (fun j=>decide (m≤j))=0:=by
       rw[List.countP_eq_zero]
       intro j hj
       have:=List.mem_range.1 hj
       simp;omega
      rw[this];simp[e];omega
   rw[hcm _ hm]at hsub
   omega
  have hex:∃i,i<m∧listed.getD i true=false∧∀j,j<i→listed.getD j true=true:=by
   have:∃i,i<m∧listed.getD i true=false:=by
    rcases Classical.not_forall.1 hpre with⟨i,hi⟩
    rcases Classical.not_imp.1 hi with⟨h1,h2⟩
    exact⟨i,h1,by simpa using h2⟩
   obtain⟨i,hi⟩:=this
   induction i using Nat.strongRecOn with
   |_ i ihi=>
    by_cases hj:∃j,j<i∧listed.getD j true=false
    ·obtain⟨j,hj1,hj2⟩:=hj
     exact ihi j hj1 ⟨by omega,hj2⟩
    ·refine⟨i,hi.1,hi.2,fun j hji=>?_⟩
     cases hq:listed.getD j true with
     |true=>rfl
     |false=>exact absurd ⟨j,hji,hq⟩ hj
  obtain⟨i0,hi0,hu0,hb0⟩:=hex
  refine⟨fun hr=>?_,fun i hi=>?_⟩
  ·exfalso
   have hlt0:i0<ops.size:=by omega
   have hget:ops[i0]?=some ops[i0]:=by simp[hlt0]
   have:i0∈Region.ready .any ops listed:=by
    unfold Region.ready
    rw[List.mem_filter]
    refine⟨List.mem_range.2 hlt0,?_⟩
    simp only[hu0,hget,Bool.not_false,Bool.true_and,Option.map_some,Option.getD_some]
    rw[Array.all_eq_true_iff_forall_mem]
    intro e he
    cases hbe:Region.binds .any e
    ·simp
    have hlt:=hc.down i0 _ hget e he hbe
    have:=hb0 e.on hlt
    have:listed.getD e.on false=true:=by simpa[Array.getD,show e.on<listed.size by omega]using this
    simp[this]
   rw[hr]at this
   simp at this
  ·unfold Region.ready at hi
   rw[List.mem_filter]at hi
   obtain⟨hi,hrd⟩:=hi
   have hi:=List.mem_range.1 hi
   have hget:ops[i]?=some ops[i]:=by simp[hi]
   simp only[hget,Option.map_some,Option.getD_some,Bool.and_eq_true,Bool.not_eq_true']at hrd
   obtain⟨hun,haft⟩:=hrd
   simp only[hget]
   have hdst:aY ops i=(ops[i]).dst:=by simp[aY,hget]
   have hun':listed.getD i false=false:=by simpa[Array.getD,show i<listed.size by omega]using hun
   have him:i<m:=by
    rcases Nat.lt_or_ge i m with h|h
    ·exact h
    ·exfalso
     have hu0':listed.getD i0 false=false:=by simpa[Array.getD,show i0<listed.size by omega]using hu0
     rcases Nat.lt_or_ge m i with h2|h2
     ·have:=bind_of listed ops[i] (i-1) haft ((htl i _ hget).2 h2)
      rw[hno (i-1) (by omega) (by omega)]at this
      cases this
     ·have him:i=m:=by omega
      have:=jO hcl 12 i _ hget (fun j hj=>bind_of listed ops[i] j haft hj) i0 ((htl i _ hget).1 him i0 hi0)
      rw[this]at hu0'
      cases hu0'
   have agree:∀t j,aY ops j=some t→aO ops[i] j=true→a8 n ops s rs i t=s' t:=by
    intro t j hj hb
    have hl:=bind_of listed ops[i] j haft hb
    have hlt:j<i:=by
     unfold aO at hb
     rw[List.any_eq_true]at hb
     obtain⟨e,he,hb⟩:=hb
     simp only[Bool.and_eq_true,beq_iff_eq]at hb
     have:=hc.down i _ hget e (Array.mem_toList_iff.1 he) hb.1
     omega
    rw[st_dst i t j hj hlt,h1 t j hj,if_pos hl]
   refine fT.op ((hs i _ him hget).congr (fun t ht=>?_) fun j w hg d hd=>agree d j hd (hc.guard i _ hget j w hg)) ?_
   ·by_cases hd:∃j,aY ops j=some t
    ·obtain⟨j,hj⟩:=hd
     rcases hc.reads i _ hget t ht j hj with hb|⟨oj,hoj,hb⟩
     ·exact agree t j hj hb
     ·have hnl:listed.getD j false=false:=by
       cases hq:listed.getD j false with
       |false=>rfl
       |true=>rw[hcl j oj i hoj hq hb]at hun';cases hun'
      have hlt:i<j:=by
       unfold aO at hb
       rw[List.any_eq_true]at hb
       obtain⟨e,he,hb⟩:=hb
       simp only[Bool.and_eq_true,beq_iff_eq]at hb
       have:=hc.down j _ hoj e (Array.mem_toList_iff.1 he) hb.1
       omega
      rw[h1 t j hj,if_neg (by simp[hnl]),st_no i t fun j' hj' hd'=>by
       have:=hc.once j' j t hd' hj
       omega]
    ·have hd':∀j,aY ops j≠some t:=fun j hj=>hd ⟨j,hj⟩
     rw[st_no i t fun j _=>hd' j,h2 t hd']
   ·have hset:∀j b,(listed.setIfInBounds i true).getD j b=if j=i then true else listed.getD j b:=by
     intro j b
     simp only[Array.getD_eq_getD_getElem?,Array.getElem?_setIfInBounds]
     by_cases e:i=j
     ·subst e;simp[hsz,hi]
     ·rw[if_neg e,if_neg (Ne.symm e)]
    refine ih _ _ (by simpa using hsz) ?_ ?_ ?_ ?_ ?_
    ·have:=lN (p:=fun j=> !(listed.setIfInBounds i true).getD j true) (q:=fun j=> !listed.getD j true) (i:=i) (fun j hj=>by
      simp only[hset]at hj⊢
      by_cases e:j=i
      ·simp[e]at hj
      ·simpa[e]using hj) (by simp[hset]) (by simp[hun]) (List.range ops.size) (List.mem_range.2 hi)
     omega
    ·intro t j hj
     rw[hset]
     by_cases e:j=i
     ·subst e
      rw[hdst]at hj
      rw[if_pos rfl,if_pos rfl,hj]
      simp only[bl,if_pos]
     ·rw[if_neg e]
      cases hd:(ops[i]).dst with
      |none=>exact h1 t j hj
      |some d=>
       simp only[bl]
       have:t≠d:=fun e'=>e (hc.once j i t hj (by rw[hdst,hd,e']))
       rw[if_neg this]
       exact h1 t j hj
    ·intro t ht
     cases hd:(ops[i]).dst with
     |none=>exact h2 t ht
     |some d=>
      simp only[bl]
      have:t≠d:=fun e'=>ht i (by rw[hdst,hd,e'])
      rw[if_neg this]
      exact h2 t ht
    ·intro j oj i' hoj hlj hb
     rw[hset]at hlj⊢
     by_cases e':i'=i
     ·rw[if_pos e']
     ·rw[if_neg e']
      by_cases e:j=i
      ·subst e
       rw[hget]at hoj
       cases hoj
       exact bind_of listed _ i' haft hb
      ·rw[if_neg e]at hlj
       exact hcl j oj i' hoj hlj hb
    ·intro j hj hj2
     rw[hset,if_neg (by omega)]
     exact hno j hj hj2
def dB(ops:Array Oper)(m:Nat):Bool:=decide (m≤ops.size)&&(List.range ops.size).all fun i=>decide (i<m)||if i=m then(List.range m).all fun j=>ca ops 12 i j else match ops[i]? with
 |none=>true
 |some o=>aO o (i-1)
theorem eU{m:Nat}(h:dB ops m=true):m≤ops.size∧∀i o,ops[i]?=some o→(i=m→∀j,j<m→ca ops 12 i j=true)∧(m<i→aO o (i-1)=true):=by
 unfold dB at h
 simp only[Bool.and_eq_true,decide_eq_true_eq,List.all_eq_true]at h
 refine⟨h.1,fun i o ho=>?_⟩
 have:=h.2 i (List.mem_range.2 (Array.getElem?_eq_some_iff.1 ho).1)
 refine⟨fun e j hj=>?_,fun hi=>?_⟩
 ·subst e
  simp only[Nat.lt_irrefl,decide_false,Bool.false_or,if_true,List.all_eq_true]at this
  exact this j (List.mem_range.2 hj)
 ·have h1:¬i<m:=by omega
  have h2:¬i=m:=by omega
  simpa only[h1,h2,decide_false,Bool.false_or,if_false,ho]using this
theorem p6(m:Nat){H0:aa}{id:Nat}{s:Nat→AV}(hm:P.follows .mixedOrders=true)(hc:dA hint ops=true)(ht:dB ops m=true)
  (h:bG P hint n ops (sa P hint n ops Q (ops.toList.drop m)) (ops.toList.take m) s H):cq P hint n H0 (.region id ops true) Q s H:=by
 obtain⟨hms,htl⟩:=eU ht
 refine⟨hm,?_⟩
 obtain⟨rs,_,h2,h3⟩:=jS (cH hc).GH m hms s (fun _=> .top) (ops.toList.take m) 0 rfl (Nat.zero_le _) h
 refine qX (cH hc) m hms htl s rs (fun i o hi ho=>h2 i o (Nat.zero_le _) hi ho) h3 ops.size (Array.replicate ops.size false) s (by simp) ?_ ?_ ?_ ?_ ?_
 ·exact Nat.le_trans List.countP_le_length (by simp)
 ·intro t j hj
  have hjl:=dM hj
  rw[if_neg (by simp[Array.getD,hjl])]
 ·intro t _;rfl
 ·intro j oj i hoj hl
  have hjl:=(Array.getElem?_eq_some_iff.1 hoj).1
  simp[Array.getD,hjl]at hl
 ·intro i hi hi2
  simp[Array.getD,hi2]
theorem aR{H0:aa}{id:Nat}{s:Nat→AV}(hm:P.follows .mixedOrders=true)(hc:dA hint ops=true)(h:bG P hint n ops Q ops.toList s H):cq P hint n H0 (.region id ops true) Q s H:=by
 refine p6 ops.size hm hc ?_ ?_
 ·unfold dB
  simp only[Nat.le_refl,decide_true,Bool.true_and,List.all_eq_true]
  intro i hi
  simp[List.mem_range.1 hi]
 ·have e1:ops.toList.drop ops.size=[]:=List.drop_of_length_le (by simp)
  have e2:ops.toList.take ops.size=ops.toList:=List.take_of_length_le (by simp)
  rw[e1,e2]
  exact kZ (Q:=Q) (Q':=sa P hint n ops Q []) (fun s H h=>h) _ _ h
theorem lf(m:Nat){H0:aa}{id:Nat}{s:Nat→AV}(hm:P.follows .mixedOrders=true)(hc:dA hint ops=true)(ht:dB ops m=true)
  (h:ct P hint n ops Q m ops.toList s H):cq P hint n H0 (.region id ops true) Q s H:=p6 m hm hc ht (by rw[←mi];exact h)
end
section
variable (P:Program) (hint:Nat→Bool) (n:Nat) (ops:Array Oper) (Q:aQ) (rest:List Oper) (s:Nat→AV) (H:aa)
def ub(d:Option Tmp)(H0:aa):AV→aa→Prop:=fun r H'=>H'=H0∧bG P hint n ops Q rest (bl n s d r) H0
def zB:Value→aa→Prop:=fun _ _=>False
theorem yo(d:Option Tmp)(H0:aa)(r:AV):ub P hint n ops Q rest s d H0 r H=(H=H0∧bG P hint n ops Q rest (bl n s d r) H0):=rfl
theorem s6:bG P hint n ops Q [] s H=Q .normal s H:=rfl
theorem qf(d:Option Tmp)(op:Op)(ty:TypeId)(p:String)(af:Array Edge):bG P hint n ops Q (⟨d,op,ty,p,af,none⟩::rest) s H=aB P hint s H ⟨d,op,ty,p,af,none⟩ (ub P hint n ops Q rest s d H) zB:=rfl
theorem oW(d:Option Tmp)(op:Op)(ty:TypeId)(p:String)(af:Array Edge)(j:Nat)(b:Bool):
  bG P hint n ops Q (⟨d,op,ty,p,af,some (j,b)⟩::rest) s H=ob (eH ops s n j b) fun b'=>mF b' (aB P hint s H ⟨d,op,ty,p,af,some (j,b)⟩ (ub P hint n ops Q rest s d H) zB) (H=H∧bG P hint n ops Q rest (bl n s d (.bq [])) H):=by
 simp only[bG,cy,AU]
 cases eH ops s n j b with
 |none=>rfl
 |some b'=>cases b'<;>rfl
def rN(m:Nat)(d:Option Tmp)(H0:aa):AV→aa→Prop:=fun r H'=>H'=H0∧ct P hint n ops Q m rest (bl n s d r) H0
theorem vP(m:Nat)(d:Option Tmp)(H0:aa)(r:AV):rN P hint n ops Q rest s m d H0 r H=(H=H0∧ct P hint n ops Q m rest (bl n s d r) H0):=rfl
theorem pk(l:List Oper):ct P hint n ops Q 0 l s H=aM P hint n ops Q l s H:=by cases l<;>rfl
theorem oR(m:Nat)(d:Option Tmp)(op:Op)(ty:TypeId)(p:String)(af:Array Edge):ct P hint n ops Q (m+1) (⟨d,op,ty,p,af,none⟩::rest) s H=aB P hint s H ⟨d,op,ty,p,af,none⟩ (rN P hint n ops Q rest s m d H) zB:=rfl
theorem uw(m:Nat)(l:List Oper):ct P hint n ops Q m l.toArray.toList s H=ct P hint n ops Q m l s H:=rfl
theorem v8(l:List Oper):bG P hint n ops Q l.toArray.toList s H=bG P hint n ops Q l s H:=rfl
end
@[congr] theorem Gu {P:Program} {hint:Nat→Bool} {n:Nat} {ops:Array Oper} {Q:aQ} {l:List Oper} {s:Nat→AV} {H H':aa} (h:nf H=H'):bG P hint n ops Q l s H=bG P hint n ops Q l s H':=by rw[←h];rfl
@[congr] theorem F8 {P:Program} {hint:Nat→Bool} {n:Nat} {ops:Array Oper} {Q:aQ} {rest:List Oper} {s:Nat→AV} {d:Option Tmp} {H0 H H':aa} {r r':AV} (g:nf r=r') (h:nf H=H'):ub P hint n ops Q rest s d H0 r H=ub P hint n ops Q rest s d H0 r' H':=by rw[←g,←h];rfl
@[congr] theorem Gr {P:Program} {hint:Nat→Bool} {n:Nat} {ops:Array Oper} {Q:aQ} {m:Nat} {l:List Oper} {s:Nat→AV} {H H':aa} (h:nf H=H'):ct P hint n ops Q m l s H=ct P hint n ops Q m l s H':=by rw[←h];rfl
@[congr] theorem EB {P:Program} {hint:Nat→Bool} {n:Nat} {ops:Array Oper} {Q:aQ} {rest:List Oper} {s:Nat→AV} {m:Nat} {d:Option Tmp} {H0 H H':aa} {r r':AV} (g:nf r=r') (h:nf H=H'):rN P hint n ops Q rest s m d H0 r H=rN P hint n ops Q rest s m d H0 r' H':=by rw[←g,←h];rfl
attribute [go_sem] vP pk oR uw
attribute [go_sem] yo s6 qf oW v8
end Go.Proofs.YtggohfhfocgilaaGreatAw
namespace Go.Proofs.YtggohfhfocgilaaGreat
open Go.Proofs.YtggohfhfocgilaaGreatAw Go.RowKit
abbrev iD(n:Int):D:= .v (.int .i64 n)
abbrev iA(n:Int):AV:= .d (.v (.int .i64 n))
abbrev bA(b:Bool):AV:= .d (.v (.bool b))
abbrev sA(b:ByteArray):AV:= .d (.v (.string b))
def ints(l:List Int):List (List D):=l.map fun x=>[.v (.int .i64 x)]
theorem az(l:List Int):(ints l).length=l.length:=by simp[ints]
theorem gk(l:List Int)(n:Int):ints l++[[.v (.int .i64 n)]]=ints (l++[n]):=by simp[ints]
theorem b5(l:List Int)(k:Nat)(h:k<l.length):(ints l)[k]?=some [.v (.int .i64 l[k])]:=by simp[ints,h]
theorem mX:ints []=[]:=rfl
theorem Gg:pf Tryz.prog 9=true:=by kernel_rfl
attribute [go_sem] Gg
end Go.Proofs.YtggohfhfocgilaaGreat
namespace Go.Proofs.YtggohfhfocgilaaGreatAw
def xz(f:Field):Bool×TypeId×Nat:=(f.name != "_",f.type,f.offset)
def uo(d:Nat)(xs ys:Array Value):List (Bool×TypeId×Nat)→Sem Bool
 |[]=>pure true
 |(true,t,off)::fs=>do
   let a←part t xs off
   let b←part t ys off
   let r←Op.equalIn d t a b
   if(!r)=true then pure false else uo d xs ys fs
 |(false,_,_)::fs=>uo d xs ys fs
theorem qO(d:Nat)(xs ys:Array Value):∀fs:List Field,Op.eqFields d xs ys fs=uo d xs ys (fs.map xz)
 |[]=>rfl
 |f::fs=>by
  simp only[Op.eqFields,List.map_cons,xz]
  rw[qO d xs ys fs]
  by_cases h:f.name= "_"
  ·simp[h,uo]
  ·have hb:(f.name != "_")=true:=by simp[h]
   rw[hb,if_pos h];rfl
theorem bH.HL{P:Program}{t:TypeId}{xs ys:Array Value}{fs:List (Bool×TypeId×Nat)}{r:Bool}(h1:P.eqGuardType P.depth t=false)(h2:P.underlying t=some (.struct (P.fieldsOf t)))(h3:P.stoodInHeld t=false)
  (h4:(P.fieldsOf t).toList.map xz=fs) (h5:∀w,(uo 9999 xs ys fs).run P w= .ok r w):bH P .eql t (.agg xs) (.agg ys) (.bool r)∧bH P .neq t (.agg xs) (.agg ys) (.bool !r):=by
 refine⟨fun x y w=>?_,fun x y w=>?_⟩
 ·rw[Sem.run_bind,run_eqGuard_agg _ _ _ _ _ _ _ h1]
  simp only[Result.andThen_ok,run_eql_struct]
  rw[run_equalIn_struct w 9999 t _ _ h2 h3,qO,h4,h5]
  rfl
 ·rw[Sem.run_bind,run_eqGuard_agg _ _ _ _ _ _ _ h1]
  simp only[Result.andThen_ok,run_neq_struct]
  rw[run_equalIn_struct w 9999 t _ _ h2 h3,qO,h4,h5]
  rfl
theorem bH.inj{P:Program}{op:BinOp}{t:TypeId}{u v r r':Value}(h:bH P op t u v r)(h':bH P op t u v r'):r=r':=by
 have h1:=h (.const .nilIface) (.const .nilIface) default
 rw[h' (.const .nilIface) (.const .nilIface) default]at h1
 cases h1;rfl
theorem sH{P:Program}{op:BinOp}{t:TypeId}{xs ys:Array Value}{r:Value}(h:bH P op t (.agg xs) (.agg ys) r)(K:Value→Prop):ck P op t (.agg xs) (.agg ys) K=K r:=by
 have:ck P op t (.agg xs) (.agg ys) K=∃r,bH P op t (.agg xs) (.agg ys) r∧K r:=by unfold ck;rfl
 rw[this]
 exact propext ⟨fun⟨r',h',k⟩=>by rw[h.inj h'];exact k,fun k=>⟨r,h,k⟩⟩
section
variable {P:Program} {w:World} {d:Nat} {t:TypeId} {off:Nat} {xs ys:Array Value} {fs:List (Bool×TypeId×Nat)} {r:Bool}
theorem kx(hg:de P t=some false){v:Value}(h:xs[off]?=some v):(part t xs off).run P w= .ok v w:=by
 unfold part
 rw[Sem.run_bind,de.run hg]
 simp[h]
theorem uC(hg:de P t=some true){z:Value}{k b:Nat}(hz:TI P t=some (z,k,b)):(part t xs off).run P w= .ok (.agg (xs.extract off (off+k))) w:=by
 unfold part
 rw[Sem.run_bind,de.run hg]
 simp[TI.sizeOf hz]
theorem nx{a b:Value}{q:Bool}(ha:(part t xs off).run P w= .ok a w)(hb:(part t ys off).run P w= .ok b w)(he:(Op.equalIn d t a b).run P w= .ok q w)(hr:(uo d xs ys fs).run P w= .ok r w):(uo d xs ys ((true,t,off)::fs)).run P w= .ok (q&&r) w:=by
 simp only[uo,Sem.run_bind,ha,hb,he,Result.andThen_ok]
 cases q
 ·simp
 ·simpa using hr
theorem w9:(uo d xs ys []).run P w= .ok true w:=rfl
theorem mT{k:IntKind}{a b:Int}(hu:UK P t=some k)(hg:de P t=some false)(ha:xs[off]?=some (.int k a))(hb:ys[off]?=some (.int k b))(hr:(uo (d+1) xs ys fs).run P w= .ok r w):(uo (d+1) xs ys ((true,t,off)::fs)).run P w= .ok ((a==b)&&r) w:=
 nx (kx hg ha) (kx hg hb) (run_equalIn_int w d t k k a b (UK.get hu)) hr
theorem B9{a b:ByteArray}(hu:P.underlying t=some .string)(hg:de P t=some false)(ha:xs[off]?=some (.string a))(hb:ys[off]?=some (.string b))(hr:(uo (d+1) xs ys fs).run P w= .ok r w):(uo (d+1) xs ys ((true,t,off)::fs)).run P w= .ok ((a.toList==b.toList)&&r) w:=
 nx (kx hg ha) (kx hg hb) (run_equalIn_string w d t a b hu) hr
theorem uU{z:Value}{k b:Nat}{gs:List (Bool×TypeId×Nat)}{q:Bool}(hg:de P t=some true)(hz:TI P t=some (z,k,b))(h2:P.underlying t=some (.struct (P.fieldsOf t)))(h3:P.stoodInHeld t=false)(h4:(P.fieldsOf t).toList.map xz=gs)
  (hq:(uo d (xs.extract off (off+k)) (ys.extract off (off+k)) gs).run P w= .ok q w) (hr:(uo (d+1) xs ys fs).run P w= .ok r w):(uo (d+1) xs ys ((true,t,off)::fs)).run P w= .ok (q&&r) w:=by
 refine nx (uC hg hz) (uC hg hz) ?_ hr
 rw[run_equalIn_struct w d t _ _ h2 h3,qO,h4]
 exact hq
end
end Go.Proofs.YtggohfhfocgilaaGreatAw
namespace Go.Proofs.YtggohfhfocgilaaGreat
open Go.Proofs.YtggohfhfocgilaaGreatAw Go.RowKit
def jN(k i:Int)(s:ByteArray)(k' i':Int)(s':ByteArray):Bool:=(k==k')&&((i==i')&&((s.toList==s'.toList)&&true))
def sJ(c o k i:Int)(s:ByteArray)(c' o' k' i':Int)(s':ByteArray):Bool:=(c==c')&&((o==o')&&(jN k i s k' i' s'&&true))
theorem xr(w:World)(d:Nat)(k i:Int)(s:ByteArray)(k' i':Int)(s':ByteArray):(uo (d+1) #[.int .i64 k,.int .i64 i,.string s] #[.int .i64 k',.int .i64 i',.string s'] [(true,3,0),(true,2,1),(true,9,2)]).run Tryz.prog w= .ok (jN k i s k' i' s') w:=
 mT K.GI K.Bo rfl rfl (mT K.HM K.Gk rfl rfl (B9 K.HO K.Fa rfl rfl w9))
theorem Dl(k i:Int)(s:ByteArray)(k' i':Int)(s':ByteArray):bH Tryz.prog .eql 100 (.agg #[.int .i64 k,.int .i64 i,.string s]) (.agg #[.int .i64 k',.int .i64 i',.string s']) (.bool (jN k i s k' i' s'))∧
  bH Tryz.prog .neq 100 (.agg #[.int .i64 k,.int .i64 i,.string s]) (.agg #[.int .i64 k',.int .i64 i',.string s']) (.bool !(jN k i s k' i' s')):=
 bH.HL (by kernel_rfl) (by kernel_rfl) (by kernel_rfl) (by kernel_rfl) fun w=>xr w 9998 k i s k' i' s'
theorem BK(c o k i:Int)(s:ByteArray)(c' o' k' i':Int)(s':ByteArray):bH Tryz.prog .eql 123 (.agg #[.int .i64 c,.int .i64 o,.int .i64 k,.int .i64 i,.string s]) (.agg #[.int .i64 c',.int .i64 o',.int .i64 k',.int .i64 i',.string s']) (.bool (sJ c o k i s c' o' k' i' s'))∧bH Tryz.prog .neq 123 (.agg #[.int .i64 c,.int .i64 o,.int .i64 k,.int .i64 i,.string s]) (.agg #[.int .i64 c',.int .i64 o',.int .i64 k',.int .i64 i',.string s']) (.bool !(sJ c o k i s c' o' k' i' s')):=bH.HL (by kernel_rfl) (by kernel_rfl) (by kernel_rfl) (fs:=[(true,3,0),(true,3,1),(true,100,2)]) (by kernel_rfl) fun w=>mT K.GI K.Bo rfl rfl (mT K.GI K.Bo rfl rfl (uU K.A9 K.CT (by kernel_rfl) (by kernel_rfl) (by kernel_rfl) (xr w 9997 k i s k' i' s') w9))
theorem wG(k i:Int)(s:ByteArray)(k' i':Int)(s':ByteArray)(K:Value→Prop):ck Tryz.prog .eql 100 (.agg #[.int .i64 k,.int .i64 i,.string s]) (.agg #[.int .i64 k',.int .i64 i',.string s']) K=K (.bool (jN k i s k' i' s')):=sH (Dl ..).1 K
theorem tJ(c o k i:Int)(s:ByteArray)(c' o' k' i':Int)(s':ByteArray)(K:Value→Prop):ck Tryz.prog .neq 123 (.agg #[.int .i64 c,.int .i64 o,.int .i64 k,.int .i64 i,.string s]) (.agg #[.int .i64 c',.int .i64 o',.int .i64 k',.int .i64 i',.string s']) K=K (.bool !(sJ c o k i s c' o' k' i' s')):=sH (BK ..).2 K
attribute [go_sem] wG
attribute [go_sem] tJ
structure ak where
 kind:Int
 i:Int
 s:ByteArray
deriving DecidableEq
structure Atom where
 eo:Int
 op:Int
 val:ak
deriving DecidableEq
def ak.enc(v:ak):List D:=[.v (.int .i64 v.kind),.v (.int .i64 v.i),.v (.string v.s)]
def Atom.enc(a:Atom):List D:=[.v (.int .i64 a.eo),.v (.int .i64 a.op),.v (.int .i64 a.val.kind),.v (.int .i64 a.val.i),.v (.string a.val.s)]
theorem toList_inj{a b:ByteArray}(h:a.toList=b.toList):a=b:=by
 rw[ByteArray.toList_eq,ByteArray.toList_eq]at h
 obtain⟨⟨x⟩⟩:=a
 obtain⟨⟨y⟩⟩:=b
 simp_all
theorem kX(v w:ak):jN v.kind v.i v.s w.kind w.i w.s=decide (v=w):=by
 cases v with|mk k i s=>
 cases w with|mk k' i' s'=>
 rw[Bool.eq_iff_iff]
 simp only[jN,Bool.and_true,Bool.and_eq_true,beq_iff_eq,decide_eq_true_eq,ak.mk.injEq]
 exact⟨fun⟨a,b,c⟩=>⟨a,b,toList_inj c⟩,fun⟨a,b,c⟩=>⟨a,b,by rw[c]⟩⟩
theorem sN(a b:Atom):sJ a.eo a.op a.val.kind a.val.i a.val.s b.eo b.op b.val.kind b.val.i b.val.s=decide (a=b):=by
 cases a with|mk c o v=>
 cases b with|mk c' o' v'=>
 simp only[sJ,kX]
 rw[Bool.eq_iff_iff]
 simp only[Bool.and_true,Bool.and_eq_true,beq_iff_eq,decide_eq_true_eq,Atom.mk.injEq]
def cS(r:List ak):List D:=[.list false (r.map ak.enc)]
def b9(R:List (List ak)):List (List D):=R.map cS
theorem b7(R:List (List ak)):(b9 R).length=R.length:=by simp[b9]
theorem jy(R:List (List ak))(k:Nat)(h:k<R.length):(b9 R)[k]?=some [.list false (R[k].map ak.enc)]:=by simp[b9,cS,h]
def fV(n:Int):Prop:=-9223372036854775808≤n∧n≤9223372036854775807
theorem fV.of{n:Int}(h:(Lit.int .i64 n).wf=true):fV n:=by
 have h:IntKind.i64.min≤n∧n≤IntKind.i64.max:=by simpa[Lit.wf]using h
 have h0:IntKind.i64.min=-9223372036854775808:=by decide
 have h1:IntKind.i64.max=9223372036854775807:=by decide
 exact⟨by omega,by omega⟩
theorem aU.fR{xs:List D}(h:aU [] xs):xs=[]:=by cases h;rfl
theorem aU.cons_inv{s:Sh}{ss:List Sh}{xs:List D}(h:aU (s::ss) xs):∃x xs',xs=x::xs'∧Fits s x∧aU ss xs':=by cases h with|cons h t=>exact⟨_,_,rfl,h,t⟩
theorem Fits.B5{k:IntKind}{d:D}(h:Fits (.int k) d):∃n,d= .v (.int k n)∧(Lit.int k n).wf=true:=by cases h with|int k n h=>exact⟨n,rfl,h⟩
theorem Fits.ep{d:D}(h:Fits (.int .i64) d):∃n,d= .v (.int .i64 n)∧fV n:=by obtain⟨n,rfl,g⟩:=Fits.B5 h;exact⟨n,rfl,.of g⟩
theorem Fits.tR{d:D}(h:Fits .bool d):∃b,d= .v (.bool b):=by cases h with|bool b=>exact⟨b,rfl⟩
theorem Fits.Cn{d:D}(h:Fits .str d):∃s,d= .v (.string s)∧s.size≤140737488351232:=by cases h with|str s h=>exact⟨s,rfl,h⟩
theorem Fits.e8{b:Nat}{es:List Sh}{d:D}(h:Fits (.slice b es) d):∃l,d= .list false l∧l.length* b≤140737488351232∧∀e∈l,aU es e:=by cases h with|slice b es l h1 h2 h=>exact⟨l,rfl,h1,h⟩
theorem gU{α:Type}{enc:α→List D}{p:α→Prop}:∀{l:List (List D)},(∀e∈l,∃a,e=enc a∧p a)→∃la:List α,l=la.map enc∧∀a∈la,p a
 |[],_=>⟨[],rfl,fun a h=>by simp at h⟩
 |e::l,h=>by
  obtain⟨a,rfl,ha⟩:=h e (List.mem_cons_self ..)
  obtain⟨la,rfl,hl⟩:=gU (l:=l) fun e he=>h e (by simp[he])
  exact⟨a::la,rfl,fun b hb=>by rcases List.mem_cons.1 hb with rfl|hb;exact ha;exact hl b hb⟩
structure ak.Ok (v:ak):Prop where
 kind:fV v.kind
 i:fV v.i
 s:v.s.size≤140737488351232
structure Atom.Ok (a:Atom):Prop where
 eo:fV a.eo
 op:fV a.op
 val:a.val.Ok
def rT:List Sh:=[.int .i64,.int .i64,.str]
def qw:List Sh:=[.int .i64,.int .i64,.int .i64,.int .i64,.str]
theorem xf{ds:List D}(h:aU rT ds):∃v:ak,ds=v.enc∧v.Ok:=by
 obtain⟨x,xs,rfl,hx,h⟩:=aU.cons_inv h
 obtain⟨y,xs,rfl,hy,h⟩:=aU.cons_inv h
 obtain⟨z,xs,rfl,hz,h⟩:=aU.cons_inv h
 cases aU.fR h
 obtain⟨k,rfl,hk⟩:=Fits.ep hx
 obtain⟨i,rfl,hi⟩:=Fits.ep hy
 obtain⟨s,rfl,hs⟩:=Fits.Cn hz
 exact⟨⟨k,i,s⟩,rfl,hk,hi,hs⟩
theorem A1{ds:List D}(h:aU qw ds):∃a:Atom,ds=a.enc∧a.Ok:=by
 obtain⟨c,xs,rfl,hc,h⟩:=aU.cons_inv h
 obtain⟨o,xs,rfl,ho,h⟩:=aU.cons_inv h
 obtain⟨v,rfl,hv⟩:=xf h
 obtain⟨k,rfl,hk⟩:=Fits.ep hc
 obtain⟨i,rfl,hi⟩:=Fits.ep ho
 exact⟨⟨k,i,v⟩,rfl,hk,hi,hv⟩
theorem iN{b:Nat}{d:D}(h:Fits (.slice b [.int .i64]) d):∃l:List Int,d= .list false (ints l)∧l.length* b≤140737488351232∧∀n∈l,fV n:=by
 obtain⟨l,rfl,h1,h2⟩:=Fits.e8 h
 obtain⟨la,rfl,h3⟩:=gU (enc:=fun n:Int=>[.v (.int .i64 n)]) (p:=fV) fun e he=>by
  obtain⟨x,xs,rfl,hx,h⟩:=aU.cons_inv (h2 e he)
  cases aU.fR h
  obtain⟨n,rfl,hn⟩:=Fits.ep hx
  exact⟨n,rfl,hn⟩
 exact⟨la,rfl,by simpa using h1,h3⟩
theorem Bk{b:Nat}{d:D}(h:Fits (.slice b rT) d):∃l:List ak,d= .list false (l.map ak.enc)∧l.length* b≤140737488351232∧∀v∈l,v.Ok:=by
 obtain⟨l,rfl,h1,h2⟩:=Fits.e8 h
 obtain⟨la,rfl,h3⟩:=gU (enc:=ak.enc) (p:=ak.Ok) fun e he=>xf (h2 e he)
 exact⟨la,rfl,by simpa using h1,h3⟩
theorem yj{b:Nat}{d:D}(h:Fits (.slice b qw) d):∃l:List Atom,d= .list false (l.map Atom.enc)∧l.length* b≤140737488351232∧∀v∈l,v.Ok:=by
 obtain⟨l,rfl,h1,h2⟩:=Fits.e8 h
 obtain⟨la,rfl,h3⟩:=gU (enc:=Atom.enc) (p:=Atom.Ok) fun e he=>A1 (h2 e he)
 exact⟨la,rfl,by simpa using h1,h3⟩
theorem rj{P:Program}{t:TypeId}{x:AV}{shs:List Sh}(h:jm P t x)(hg:de P t=some true)(hs:nb P 9 t=some shs):∃ds:List D,x= .agg (ds.map .d)∧aU shs ds:=by
 rcases h with⟨hg',_⟩|⟨_,shs',ds,hs',hf,rfl⟩
 ·rw[hg]at hg';cases hg'
 ·rw[hs]at hs';cases hs';exact⟨ds,rfl,hf⟩
def gG(l:List ak):Nat:=(l.map fun v=>v.s.size).sum
def di(R:List (List ak)):Nat:=(R.map gG).sum
def cu(m b:Nat)(R:List (List ak)):Bool:=decide (R.length≤m∧(∀r∈R,r.length≤8)∧di R≤b)
theorem wh(R:List (List ak))(k:Nat):di (R.take k)≤di R:=by
 have h:di R=di (R.take k)+di (R.drop k):=by unfold di;rw[←List.sum_append,←List.map_append,List.take_append_drop]
 omega
theorem sz(r:List ak)(h:∀v∈r,v.s.size≤140737488351232):∀j,j≤r.length→gG (r.take j)≤j* 140737488351232
 |0,_=>by simp[gG]
 |j+1,hj=>by
  have:=sz r h j (by omega)
  have h2:=h r[j] (List.getElem_mem _)
  rw[List.take_succ_eq_append_getElem (show j<r.length by omega)]
  simp only[gG,List.map_append,List.sum_append,List.map_cons,List.map_nil,List.sum_cons,List.sum_nil]at this⊢
  omega
theorem kq{m b:Nat}{R:List (List ak)}(h:cu m b R=true):R.length≤m∧∀r∈R,r.length≤8:=by
 unfold cu at h
 have h:=of_decide_eq_true h
 exact⟨h.1,h.2.1⟩
theorem uY(R:List (List ak))(nn:Bool)(hR:R.length≤100000000000000)(hr:∀r∈R,r.length≤100000000000000)(hs:∀r∈R,∀v∈r,v.s.size≤140737488351232)(H:aa):
  ah Tryz.prog 45 [.d (.list nn (b9 R))] H (.ok (bA (cu 400 30000 R))) H:=by
 refine ah.aj (hint:=(fun _=>false)) Tryz.func45 (by kernel_rfl) rfl [2] (by kernel_rfl) (by decide) (by simp[Tryz.ntmps45]) ?_
 rw[Tryz.ntmps45]
 simp -implicitDefEqProofs only[go_sem]
 refine br Tryz.prog _ _ _ (fun k s H'=>(k≤R.length∧H'=H∧(∀r∈R.take k,r.length≤8)∧di (R.take k)≤30000+8* 140737488351232)∧s 0= .d (.list nn (b9 R))∧s 3=iA (di (R.take k))∧s 4=iA k) (fun k=>R.length-k) 0 (an.refl _ _) ?_ ?_
 ·refine⟨⟨Nat.zero_le _,rfl,by simp,by simp[di]⟩,?_⟩
  simp -implicitDefEqProofs only[↓reduceIte,go_sem,Nat.reduceLT,Nat.reduceEqDiff,reduceCtorEq,List.take_zero,di]
  rfl
 rintro k s H' ⟨⟨hk,rfl,h8,hb⟩,t0,t3,t4⟩
 by_cases h1:k<R.length
 case neg=>
  obtain rfl:k=R.length:=by omega
  rw[List.take_length]at*
  have hf:cu 400 30000 R=(decide (R.length≤400)&&decide (di R≤30000)):=by unfold cu;rw[Bool.eq_iff_iff];simp;exact fun _=>fun _=>h8
  rw[hf]
  generalize di R=n at*
  by_cases h2:(R.length:Int)≤400
  case' pos=>by_cases h3:(n:Int)≤30000
  all_goals
   simp -implicitDefEqProofs only[↓reduceIte,go_sem,Nat.reduceLT,Nat.reduceEqDiff,reduceCtorEq,b7, *]
   refine ao.aF ?_
   simp -implicitDefEqProofs only[↓reduceIte,go_sem,Nat.reduceLT]<;>simp<;>omega
 have hge:di (R.take k)≤di R:=wh R k
 by_cases h2:k≤400
 case neg=>
  have hf:cu 400 30000 R=false:=by unfold cu;simp;omega
  rw[hf]
  simp -implicitDefEqProofs only[↓reduceIte,go_sem,Nat.reduceLT,Nat.reduceEqDiff,reduceCtorEq,t0,t4,b7,eq_true h1,show ¬(k:Int)≤400 by omega,show ¬(R.length:Int)≤400 by omega]
  refine ao.aF ?_
  simp -implicitDefEqProofs only[↓reduceIte,go_sem,Nat.reduceLT]
 by_cases h3:di (R.take k)≤30000
 case neg=>
  have hf:cu 400 30000 R=false:=by unfold cu;simp;omega
  rw[hf]
  generalize di (R.take k)=n at*
  by_cases h4:(R.length:Int)≤400
  all_goals
   simp -implicitDefEqProofs only[↓reduceIte,go_sem,Nat.reduceLT,Nat.reduceEqDiff,reduceCtorEq,t0,t3,t4,b7,eq_true h1,show(k:Int)≤400 by omega,show ¬(n:Int)≤30000 by omega,h4]
   refine ao.aF ?_
   simp -implicitDefEqProofs only[↓reduceIte,go_sem,Nat.reduceLT]
 have hx:=jy R k h1
 have e1:di (R.take (k+1))=di (R.take k)+gG R[k]:=by unfold di;rw[List.take_succ_eq_append_getElem h1,List.map_append,List.sum_append];simp only[List.map_cons,List.map_nil,List.sum_cons,List.sum_nil,Nat.add_zero]
 have e2:∀r∈R.take (k+1),r∈R.take k∨r=R[k]:=fun r h=>by rw[List.take_succ_eq_append_getElem h1]at h;exact(List.mem_append.1 h).imp id List.mem_singleton.1
 have hmem:=List.getElem_mem h1
 generalize di (R.take k)=n at*
 generalize R[k]=r at*
 simp -implicitDefEqProofs only[↓reduceIte,go_sem,Nat.reduceLT,Nat.reduceEqDiff,reduceCtorEq,t0,t3,t4,b7,h1,show(k:Int)≤400 by omega,show(n:Int)≤30000 by omega,hx,List.length_map]
 by_cases h9:(8:Int)<r.length
 ·have hf:cu 400 30000 R=false:=by unfold cu;simp;intro _ h;have:=h r hmem;omega
  rw[hf]
  simp -implicitDefEqProofs only[go_sem,h9]
  refine ao.aF ?_
  simp -implicitDefEqProofs only[↓reduceIte,go_sem,Nat.reduceLT]
 simp -implicitDefEqProofs only[go_sem,h9]
 have hb2:∀j,j≤r.length→gG (r.take j)≤j* 140737488351232:=fun j hj=>sz r (hs r hmem) j hj
 refine aP (fun j s H''=>H''=H'∧s 0= .d (.list nn (b9 R))∧s 3=iA ((n+gG (r.take j):Nat):Int)∧s 4=iA k∧s 5=iA j) r.length (by omega) (an.refl _ _) ?_ ?_ ?_
 ·refine⟨rfl,?_⟩
  simp -implicitDefEqProofs only[↓reduceIte,go_sem,Nat.reduceLT,Nat.reduceEqDiff,reduceCtorEq,t0,t3,t4,List.take_zero,gG]
  simp
 ·rintro j s H'' hj hw ⟨rfl,t0,t3,t4,t5⟩
  have hv:(r.map ak.enc)[j]?=some [.v (.int .i64 r[j].kind),.v (.int .i64 r[j].i),.v (.string r[j].s)]:=by rw[List.getElem?_map,List.getElem?_eq_getElem hj];rfl
  have e3:gG (r.take (j+1))=gG (r.take j)+r[j].s.size:=by unfold gG;rw[List.take_succ_eq_append_getElem hj,List.map_append,List.sum_append];simp only[List.map_cons,List.map_nil,List.sum_cons,List.sum_nil,Nat.add_zero]
  have q1:=hb2 (j+1) (by omega)
  rw[e3]at q1⊢
  generalize gG (r.take j)=y at*
  generalize r[j]=v at*
  obtain⟨z,hz⟩:∃z,z=n+y:=⟨_,rfl⟩
  rw[←hz]at t3
  simp -implicitDefEqProofs only[↓reduceIte,go_sem,Nat.reduceAdd,Nat.reduceLT,Nat.reduceLeDiff,Nat.reduceEqDiff,reduceCtorEq,t0,t3,t4,t5,hx,hj,hv,List.length_map]
  refine cO.same ⟨rfl,?_⟩
  simp -implicitDefEqProofs only[↓reduceIte,go_sem,Nat.reduceLT,Nat.reduceEqDiff,reduceCtorEq,t0,t4,hw,show IntKind.i64.wrap ((z:Int)+(v.s.size:Int))=((n+(y+v.s.size):Nat):Int) by rw[wrap64_in _ (by omega) (by omega)];omega]
 ·rintro s H'' ⟨rfl,t0,t3,t4,t5⟩
  rw[List.take_length]at t3
  have q1:=hb2 r.length (Nat.le_refl _)
  rw[List.take_length]at q1
  generalize gG r=y at*
  obtain⟨z,hz⟩:∃z,z=n+y:=⟨_,rfl⟩
  rw[←hz]at t3 e1
  simp -implicitDefEqProofs only[↓reduceIte,go_sem,Nat.reduceAdd,Nat.reduceMul,Nat.reduceLT,Nat.reduceEqDiff,reduceCtorEq,t0,t4,t5,hx,List.length_map]
  refine⟨_,_,k+1,an.refl _ _,⟨⟨h1,rfl,fun r' h=>?_,by rw[e1];omega⟩,?_⟩,by omega⟩
  ·rcases e2 r' h with h|rfl
   ·exact h8 r' h
   ·omega
  ·simp -implicitDefEqProofs only[↓reduceIte,go_sem,Nat.reduceLT,Nat.reduceEqDiff,reduceCtorEq,t0,t3,e1,wrap64_in ((k:Int)+1) (by omega) (by omega)]
end Go.Proofs.YtggohfhfocgilaaGreat
namespace Go.Proofs.YtggohfhfocgilaaGreat
open Go.Shelf
def tc:Go.Shelf.Ren:=⟨fun|189=>150|125=>182|257=>181|128=>220|129=>207|294=>211|295=>212|296=>213|297=>214|298=>215|299=>216|216=>217|300=>218|301=>219|328=>243|329=>244|330=>245|331=>246|332=>247|215=>222|343=>263|n=>n,fun|28=>23|3=>3|46=>207|0=>0|51=>89|53=>40|4=>4|183=>272|182=>271|131=>277|5=>5|9=>9|218=>307|222=>310|228=>328|229=>329|n=>n,fun|n=>n⟩
theorem wQ:Go.Proofs.Lays.n189 Tryz.prog tc:={
 mixed:=by kernel_rfl
 f125:=Tryz.func182.trans (congrArg some (by kernel_rfl))
 f128:=Tryz.func220.trans (congrArg some (by kernel_rfl))
 f129:=Tryz.func207.trans (congrArg some (by kernel_rfl))
 f189:=Tryz.func150.trans (congrArg some (by kernel_rfl))
 f215:=Tryz.func222.trans (congrArg some (by kernel_rfl))
 f216:=Tryz.func217.trans (congrArg some (by kernel_rfl))
 f257:=Tryz.func181.trans (congrArg some (by kernel_rfl))
 f294:=Tryz.func211.trans (congrArg some (by kernel_rfl))
 f295:=Tryz.func212.trans (congrArg some (by kernel_rfl))
 f296:=Tryz.func213.trans (congrArg some (by kernel_rfl))
 f297:=Tryz.func214.trans (congrArg some (by kernel_rfl))
 f298:=Tryz.func215.trans (congrArg some (by kernel_rfl))
 f299:=Tryz.func216.trans (congrArg some (by kernel_rfl))
 f300:=Tryz.func218.trans (congrArg some (by kernel_rfl))
 f301:=Tryz.func219.trans (congrArg some (by kernel_rfl))
 f328:=Tryz.func243.trans (congrArg some (by kernel_rfl))
 f329:=Tryz.func244.trans (congrArg some (by kernel_rfl))
 f330:=Tryz.func245.trans (congrArg some (by kernel_rfl))
 f331:=Tryz.func246.trans (congrArg some (by kernel_rfl))
 f332:=Tryz.func247.trans (congrArg some (by kernel_rfl))
 f343:=Tryz.func263.trans (congrArg some (by kernel_rfl))
 t0:=Tryz.underlying0
 a0:=Tryz.isAgg0
 z0:=Tryz.sizeOf0
 v0:=Tryz.zeroValue0
 t3:=Tryz.underlying3
 a3:=Tryz.isAgg3
 z3:=Tryz.sizeOf3
 v3:=Tryz.zeroValue3
 t4:=Tryz.underlying4
 a4:=Tryz.isAgg4
 z4:=Tryz.sizeOf4
 v4:=Tryz.zeroValue4
 t5:=Tryz.underlying5
 a5:=Tryz.isAgg5
 z5:=Tryz.sizeOf5
 v5:=Tryz.zeroValue5
 t9:=Tryz.underlying9
 a9:=Tryz.isAgg9
 z9:=Tryz.sizeOf9
 v9:=Tryz.zeroValue9
 t28:=Tryz.underlying23
 a28:=Tryz.isAgg23
 z28:=Tryz.sizeOf23
 v28:=Tryz.zeroValue23
 t46:=Tryz.underlying207
 a46:=Tryz.isAgg207
 z46:=Tryz.sizeOf207
 v46:=Tryz.zeroValue207
 t51:=Tryz.underlying89
 a51:=Tryz.isAgg89
 z51:=Tryz.sizeOf89
 v51:=Tryz.zeroValue89
 t53:=Tryz.underlying40
 a53:=Tryz.isAgg40
 z53:=Tryz.sizeOf40
 v53:=Tryz.zeroValue40
 t131:=Tryz.underlying277
 a131:=Tryz.isAgg277
 z131:=Tryz.sizeOf277
 v131:=Tryz.zeroValue277
 t182:=Tryz.underlying271
 a182:=Tryz.isAgg271
 z182:=Tryz.sizeOf271
 v182:=Tryz.zeroValue271
 t183:=Tryz.underlying272
 a183:=Tryz.isAgg272
 z183:=Tryz.sizeOf272
 v183:=Tryz.zeroValue272
 t218:=Tryz.underlying307
 a218:=Tryz.isAgg307
 z218:=Tryz.sizeOf307
 v218:=Tryz.zeroValue307
 t222:=Tryz.underlying310
 a222:=Tryz.isAgg310
 z222:=Tryz.sizeOf310
 v222:=Tryz.zeroValue310
 t228:=Tryz.underlying328
 a228:=Tryz.isAgg328
 z228:=Tryz.sizeOf328
 v228:=Tryz.zeroValue328
 t229:=Tryz.underlying329
 a229:=Tryz.isAgg329
 z229:=Tryz.sizeOf329
 v229:=Tryz.zeroValue329}
end Go.Proofs.YtggohfhfocgilaaGreat
namespace Go.Proofs.YtggohfhfocgilaaGreatAw
open Go.RowKit
def cZ(P:Program)(H:aa)(s:Nat→AV):ResultVar→Option AV
 | .tmp t=>some (s t)
 | .cell a t=>(de P t).bind fun b=>if b=true then(TI P t).bind fun z=>(dF H z.2.1 (s a)).map .agg else G1 (dF H 1 (s a))
def bR(P:Program)(H:aa)(s:Nat→AV):List ResultVar→Option (List AV)
 |[]=>some []
 |r::rs=>(cZ P H s r).bind fun x=>(bR P H s rs).map (x::·)
def cY(P:Program)(rs:List ResultVar)(H0:aa)(res:lK)(H':aa):aQ:=fun e s H=>
 match e with
 | .normal| .ret=>∃avs s',bR P H s rs=some avs∧an H0 (fun t=>avs.getD t .top) H s' H'∧res= .ok (iX (List.range avs.length) s')
 | .panic v=>∃s',an H0 s H s' H'∧res= .panic v
 |_=>False
section
variable {P:Program} {H:aa} {φ:aI} {N:Addr→Prop} {w:World} {s:Nat→AV} {a:Act}
theorem uy(hR:Rel H φ N w){x:AV}{v:Value}(hx:RA H φ N w x v){t:TypeId}(hg:de P t=some true){z:Value}{k b:Nat}(hi:TI P t=some (z,k,b)){cs:List AV}(h:dF H k x=some cs):
  ∃ad u,v= .pointer (some ad)∧(loadVar t ad).run P w= .ok u w∧RA H φ N w (.agg cs) u:=by
 obtain⟨hl,ad,hv,hh⟩:=kS hR hx h
 let f:Nat→Value:=fun t=>if ht:t<cs.length then(hh t ht).choose else undef
 have hf:∀t (ht:t<cs.length),w.cell? (ad.add t)=some (f t)∧RA H φ N w (cs[t]) (f t):=fun t ht=>by
  simp only[f,ht,dif_pos];exact(hh t ht).choose_spec
 have hrun:=run_loadCells (P:=P) w ad k f fun j hj=>(hf j (by omega)).1
 refine⟨ad,.agg ((List.range k).map f).toArray,hv,?_,.agg _ _ (by simp[hl]) fun i h1 h2=>?_⟩
 ·simp only[loadVar,Sem.run_bind,de.run hg,Result.andThen_ok,if_true,TI.sizeOf hi,hrun,Sem.run_pure]
 ·simp only[List.getElem_toArray,List.getElem_map,List.getElem_range]
  exact(hf i h1).2
theorem uz(hR:Rel H φ N w){x:AV}{v:Value}(hx:RA H φ N w x v){t:TypeId}(hg:de P t=some false){c:AV}(h:dF H 1 x=some [c]):
  ∃ad u,v= .pointer (some ad)∧(loadVar t ad).run P w= .ok u w∧RA H φ N w c u:=by
 obtain⟨hl,ad,hv,hh⟩:=kS hR hx h
 obtain⟨u,hu,hr⟩:=hh 0 (by simp)
 have hu':w.cell? ad=some u:=by simpa[Addr.add]using hu
 exact⟨ad,u,hv,by simp only[loadVar,Sem.run_bind,de.run hg,Result.andThen_ok,Bool.false_eq_true,if_false,run_load,hu'],hr⟩
theorem AR(hR:Rel H φ N w)(hT:bF H φ N w s a){r:ResultVar}{x:AV}(h:cZ P H s r=some x):
  ∃u,(match r with| .tmp t=>pure (a.tmps.getD t undef)| .cell b t=>do loadVar t (←asAddr (a.tmps.getD b undef)):Sem Value).run P w= .ok u w∧RA H φ N w x u:=by
 cases r with
 |tmp t=>cases h;exact⟨_,rfl,hT t⟩
 |cell b t=>
  simp only[cZ]at h
  obtain⟨g,hg,h⟩:=Option.bind_eq_some_iff.1 h
  cases g with
  |true=>
   rw[if_pos rfl]at h
   obtain⟨⟨z,k,bb⟩,hz,h⟩:=Option.bind_eq_some_iff.1 h
   obtain⟨cs,hc,rfl⟩:=Option.map_eq_some_iff.1 h
   obtain⟨ad,u,hv,hrun,hu⟩:=uy hR (hT b) hg hz hc
   exact⟨u,by simp only[hv,Sem.run_bind,asAddr,Sem.run_pure,Result.andThen_ok,hrun],hu⟩
  |false=>
   rw[if_neg (by simp)]at h
   have hc:dF H 1 (s b)=some [x]:=by
    revert h
    cases dF H 1 (s b)with
    |none=>intro h;cases h
    |some l=>rcases l with _|⟨c,_|⟨d,l⟩⟩<;>intro h<;>cases h;rfl
   obtain⟨ad,u,hv,hrun,hu⟩:=uz hR (hT b) hg hc
   exact⟨u,by simp only[hv,Sem.run_bind,asAddr,Sem.run_pure,Result.andThen_ok,hrun],hu⟩
theorem pF(hR:Rel H φ N w)(hT:bF H φ N w s a):∀{rs:List ResultVar} {xs:List AV},bR P H s rs=some xs→
  ∃us:List Value,(rs.mapM fun r=>(match r with| .tmp t=>pure (a.tmps.getD t undef)| .cell b t=>do loadVar t (←asAddr (a.tmps.getD b undef)):Sem Value)).run P w= .ok us w∧xs.length=us.length∧∀i (h1:i<xs.length) (h2:i<us.length),RA H φ N w (xs[i]) (us[i])
 |[],xs,h=>by cases h;exact⟨[],rfl,rfl,fun i h1=>by simp at h1⟩
 |r::rs,xs,h=>by
  simp only[bR]at h
  obtain⟨x,hx,h⟩:=Option.bind_eq_some_iff.1 h
  obtain⟨ys,hy,rfl⟩:=Option.map_eq_some_iff.1 h
  obtain⟨u,hu,ru⟩:=AR hR hT hx
  obtain⟨us,hus,hl,rus⟩:=pF hR hT hy
  refine⟨u::us,?_,by simp[hl],fun i h1 h2=>?_⟩
  ·rw[List.mapM_cons,Sem.run_bind,hu]
   simp only[Result.andThen_ok,Sem.run_bind,hus,Sem.run_pure]
  ·cases i with
   |zero=>exact ru
   |succ i=>simpa using rus i (by simpa using h1) (by simpa using h2)
theorem tY{fn:Func}{us:List Value}{tmps:Array Value}(h:(fn.results.toList.mapM fun r=>(match r with| .tmp t=>pure (tmps.getD t undef)| .cell b t=>do loadVar t (←asAddr (tmps.getD b undef)):Sem Value)).run P w= .ok us w):
  (results fn tmps).run P w= .ok (match us with|[u]=>u|l=> .tuple l.toArray) w:=by
 unfold results
 rw[Sem.run_bind,Array.mapM_eq_mapM_toList,Sem.run_map]
 refine(congrArg (fun r=>(Result.andThen r fun a w'=>Result.ok (List.toArray a) w').andThen fun vs w'=>Sem.run P (pure (if h:vs.size=1 then vs[0]else .tuple vs)) w') (Eq.trans ?_ h)).trans ?_
 ·congr 1
 ·simp only[Result.andThen_ok,Sem.run_pure]
  match us with
  |[]=>rfl
  |[u]=>rfl
  |u::v::l=>simp
theorem yt(l:List Tmp)(h:l.length≠1)(s:Nat→AV):iX l s= .bq (l.map s):=by
 rcases l with _|⟨a,_|⟨b,l⟩⟩
 ·rfl
 ·exact absurd rfl h
 ·rfl
theorem ah.cG{hint:Nat→Bool}{f:FuncId}{fn:Func}{body:Code}(hf:P.funcs[f]?=some fn)(hn:(fn.name== "runtime.NumGoroutine")=false)(hb:fn.body=some body)(rs:List ResultVar)(hr:fn.results.toList=rs)
  {args:List AV} {H:aa} {res:lK} {H':aa} (ha:args.length≤fn.ntmps) (h:cq P hint fn.ntmps H body (cY P rs H res H') (ji args) H):ah P f args H res H':=by
 intro φ N w vals hR hA
 refine .inl ⟨fa hf hn (by rw[hb];rfl) vals w,gJ hf hb ha h hR hA ?_⟩
 intro ax s' H1 φ1 N1 tmps w' hI1 hq
 have fin:(∃avs s'',bR P H1 s' rs=some avs∧an H (fun t=>avs.getD t .top) H1 s'' H'∧res= .ok (iX (List.range avs.length) s''))→∃v,(results fn tmps).run P w'= .ok v w'∧∃φ' N',Rel H' φ' N' w'∧ar H φ N w H' φ' N' w'∧qx H' φ' N' w' res (.returned v):=by
  rintro⟨avs,s'',hav,hW,rfl⟩
  obtain⟨us,hus,hl,hru⟩:=pF hI1.rel hI1.tmps hav
  have hI2:Inv H φ N w us.length ⟨true,[]⟩ (fun t=>avs.getD t .top) H1 φ1 N1 {tmps:=us.toArray,defers:=[]} w':=by
   refine⟨hI1.rel,fun t=>?_,hI1.since,by simp,gW.refl⟩
   by_cases ht:t<avs.length
   ·have e1:avs.getD t .top=avs[t]:=by simp[List.getD,ht]
    have e2:(us.toArray:Array Value).getD t undef=us[t]'(by omega):=by
     rw[Array.getD_eq_getD_getElem?];simp[show t<us.length by omega]
    simp only[e1,e2]
    exact hru t ht (by omega)
   ·have e1:avs.getD t .top= .top:=by simp[List.getD,List.getElem?_eq_none (Nat.le_of_not_lt ht)]
    simp only[e1]
    exact .top _
  obtain⟨φ2,N2,hI3⟩:=hW.ok hR hI2
  refine⟨_,tY (by rw[hr];exact hus),φ2,N2,hI3.rel,hI3.since,?_⟩
  have at_:∀t,RA H' φ2 N2 w' (s'' t) ((us.toArray:Array Value).getD t undef):=hI3.tmps
  show RA H' φ2 N2 w' (iX (List.range avs.length) s'') _
  match us,hl with
  |[],hl=>
   have:avs=[]:=List.eq_nil_of_length_eq_zero hl
   subst this
   exact .bq _ _ rfl fun i h1=>by simp at h1
  |[u],hl=>
   have:avs.length=1:=hl
   rw[this]
   exact at_ 0
  |u::v::l,hl=>
   have e:iX (List.range avs.length) s''= .bq ((List.range avs.length).map s''):=by
    exact yt _ (by simp[hl]) s''
   rw[e]
   refine .bq _ _ (by simp[hl]) fun i h1 h2=>?_
   have:=at_ i
   rw[Array.getD_eq_getD_getElem?]at this
   simp only[List.size_toArray]at h2
   rw[List.getElem?_toArray,List.getElem?_eq_getElem h2]at this
   simpa using this
 cases ax with
 |normal=>exact fin hq
 |ret=>exact fin hq
 |exit i=>exact hq.elim
 |panic v=>
  obtain⟨s'',hW,rfl⟩:=hq
  obtain⟨φ2,N2,hI2⟩:=hW.ok hR hI1
  exact⟨φ2,N2,hI2.rel,hI2.since,rfl⟩
theorem cY.ret{rs:List ResultVar}{H T:aa}{s:Nat→AV}{r:AV}(h:ob (bR P (H++T) s rs) fun avs=>r=iX (List.range avs.length) fun t=>qd (H++T) H.length (avs.getD t .top)):cY P rs H (.ok r) H .ret s (H++T):=by
 cases e:bR P (H++T) s rs with
 |none=>rw[e]at h;exact h.elim
 |some avs=>
  rw[e]at h
  exact⟨avs,_,e,an.drop H T _,by rw[show r=_ from h]⟩
end
end Go.Proofs.YtggohfhfocgilaaGreatAw
namespace Go.Proofs.YtggohfhfocgilaaGreat
open Go.Proofs.YtggohfhfocgilaaGreatAw Go.RowKit
def dI(l:List Int):List Int:=l.mergeSort fun x y=>decide (x≤y)
theorem dY(l:List Int):(dI l).length=l.length:=List.length_mergeSort _
theorem pj(l:List Int)(id ag:Nat)(H:aa)(ho:H[id]?=some (.arr 3 1 ag (ints l)))(hl:l.length≤1000000000):
  ah Tryz.prog 150 [.sl id ag 0 l.length] H (.ok (.bq [])) (H.set id (.arr 3 1 ag (ints (dI l)))):=by
 intro φ N w vals hR hA
 obtain⟨v,rfl⟩:∃v,vals=#[v]:=by
  have h1:=hA.1
  obtain⟨vs⟩:=vals
  match vs,h1 with
  |[v],_=>exact⟨v,rfl⟩
 have hv:=hA.2 0 (by simp) (by simp)
 simp only[List.getElem_cons_zero,List.getElem_toArray]at hv
 have hid:=al ho
 refine .inl ⟨fa Tryz.func150 (by kernel_rfl) (by kernel_rfl) _ w,?_⟩
 cases hv with
 |sl _ _ _ _ A l' m o ho' hv' hp=>
 rw[ho]at ho';cases ho'
 obtain⟨rfl,h1,h2⟩:=hp rfl
 by_cases hl0:l=[]
 ·subst hl0
  have:=Any.slices_Sort_int_none (P:=Tryz.prog) wQ A m w
  refine Calls.mono this ?_
  rintro e w' ⟨rfl,rfl⟩
  have hs:H.set id (.arr 3 1 ag (ints (dI [])))=H:=by
   obtain⟨hl,hx⟩:=List.getElem?_eq_some_iff.1 ho
   rw[show dI []=[]from by simp[dI],←hx];exact List.set_getElem_self hl
  rw[hs]
  exact⟨φ,N,hR,.refl,.bq [] _ rfl fun i h1=>by simp at h1⟩
 have hpos:=List.length_pos_iff.2 hl0
 have hobj:=hR.obj id _ ho
 cases hobj with
 |arr _ _ _ _ hk hes hbl=>
 rcases h2 with⟨_,h3,_⟩|⟨B,c,h3,h4,rfl,rfl⟩
 ·omega
 rcases hbl with⟨g0,_⟩|⟨B',cap,cur,g1,g2,g3,g4,g5,g6⟩
 ·rw[g0]at h3;cases h3
 obtain⟨e1,e2⟩:=Prod.mk.inj (Option.some.inj (g1.symm.trans h3))
 subst e1 e2
 have hel:(ints l).length=l.length:=by simp[ints]
 rw[hel]at g3
 have hBl:B'<w.heap.size:=by
  rcases Nat.lt_or_ge B' w.heap.size with h|h
  ·exact h
  ·simp[Array.getElem?_eq_none h]at g2
 have hcur:∀i (hi:i<l.length),cur[i]?=some (.int .i64 l[i]):=by
  intro i hi
  obtain⟨u,hu,hd⟩:=g6 i (by rw[hel];exact hi) 0 (by simp[ints])
  have hx:((ints l)[i]'(by rw[hel];exact hi))[0]'(by simp[ints])= .v (.int .i64 l[i]):=by simp[ints]
  rw[hx]at hd
  cases hd
  simpa using hu
 have hH:Go.Sort.Holds (Value.int .i64) w B' 0 l.toArray:=by
  intro j hj
  have hj':j<l.length:=by simpa using hj
  have hc:=hcur j hj'
  refine⟨?_,?_⟩
  ·simp[World.cell?,g2,hc,hj',getElem!_pos]
  ·simp[World.frozen?,g2]
 have hcall:=Any.slices_Sort_int (P:=Tryz.prog) wQ B' 0 (cap-0) l w hH hBl (by omega)
 rw[Nat.zero_mul]
 refine Calls.mono hcall ?_
 rintro e w' ⟨rfl,n,os,rfl⟩
 have hsz:(l.mergeSort fun x y=>decide (x≤y)).toArray.size=l.length:=by simp
 have hother:∀k,k<w.heap.size→k≠B'→(Go.Sort.grow (Go.Sort.putRow (Value.int .i64) (Go.Sort.ahead w n) B' 0 (l.mergeSort fun x y=>decide (x≤y)).toArray) os).heap[k]?=w.heap[k]?:=by
  intro k hk hne
  rw[Go.Sort.heap_grow_old _ _ (by simpa using hk)]
  simp only[Go.Sort.putRow,Go.Sort.mapBlock,Go.Sort.ahead,Array.getElem?_modify]
  rw[if_neg (Ne.symm hne)]
 have hthis:(Go.Sort.grow (Go.Sort.putRow (Value.int .i64) (Go.Sort.ahead w n) B' 0 (l.mergeSort fun x y=>decide (x≤y)).toArray) os).heap[B']?=some (.cells (Go.Sort.putCells (Value.int .i64) 0 (l.mergeSort fun x y=>decide (x≤y)).toArray cur) 3 (0,0)):=by
  rw[Go.Sort.heap_grow_old _ _ (by simpa using hBl)]
  simp only[Go.Sort.putRow,Go.Sort.mapBlock,Go.Sort.ahead,Array.getElem?_modify,g2]
  rfl
 have hsize:w.heap.size≤(Go.Sort.grow (Go.Sort.putRow (Value.int .i64) (Go.Sort.ahead w n) B' 0 (l.mergeSort fun x y=>decide (x≤y)).toArray) os).heap.size:=by simp[Go.Sort.ahead]
 generalize hW:Go.Sort.grow (Go.Sort.putRow (Value.int .i64) (Go.Sort.ahead w n) B' 0 (l.mergeSort fun x y=>decide (x≤y)).toArray) os=W at*
 have hcells:∀i (hi:i<l.length),(Go.Sort.putCells (Value.int .i64) 0 (l.mergeSort fun x y=>decide (x≤y)).toArray cur)[i]?=some (.int .i64 ((dI l)[i]'(by rw[dY];exact hi))):=by
  intro i hi
  have hc:=hcur i hi
  simp only[Go.Sort.putCells,Array.getElem?_mapIdx,hc,Option.map_some]
  rw[if_pos ⟨Nat.zero_le _,by rw[hsz];omega⟩,Nat.sub_zero,getElem!_pos _ i (by rw[hsz];exact hi)]
  rfl
 have hpsz:(Go.Sort.putCells (Value.int .i64) 0 (l.mergeSort fun x y=>decide (x≤y)).toArray cur).size=cur.size:=by simp[Go.Sort.putCells]
 generalize Go.Sort.putCells (Value.int .i64) 0 (l.mergeSort fun x y=>decide (x≤y)).toArray cur=cur' at*
 have hS:ar H φ N w (H.set id (.arr 3 1 ag (ints (dI l)))) φ N W:=by
  refine⟨by simp,by rw[←hW];rfl,by rw[←hW];rfl,by rw[←hW];rfl,hsize,fun k hk hn=>hother k hk fun h=>hn id cap hid (h▸h3),fun j B c hj hp _=>⟨j,c,by simpa using hj,hp⟩,fun _ h=>h,fun j o hj=>?_,fun a h=> .inl h⟩
  by_cases hji:j=id
  ·subst hji
   rw[ho]at hj;cases hj
   refine⟨.arr 3 1 ag (ints (dI l)),by simp[hid],rfl,Nat.le_refl _,fun _=>⟨rfl,by simp[aA.len,ints,dY]⟩,fun kk es h=>by cases h⟩
  ·exact⟨o,by rw[List.getElem?_set_ne (Ne.symm hji)];exact hj,rfl,Nat.le_refl _,fun _=>⟨rfl,Nat.le_refl _⟩,fun kk es h=>⟨rfl,es,h⟩⟩
 refine⟨φ,N,⟨fun j o hj=>?_,fun i j B c c' hi hj hpi hpj=>hR.inj i j B c c' (by simpa using hi) (by simpa using hj) hpi hpj,fun a ha=>?_,fun a j B c ha hj hp=>hR.apart a j B c ha (by simpa using hj) hp⟩,hS,.bq [] _ rfl fun i h1=>by simp at h1⟩
 ·by_cases hji:j=id
  ·subst hji
   simp[hid]at hj
   subst hj
   refine .arr _ _ _ _ hk (fun c hc=>by obtain⟨x,_,rfl⟩:=List.mem_map.1 hc;rfl) (.inr ⟨B',cap,cur',h3,hthis,by simp[ints,dY];omega,g4,by rw[hpsz];exact g5,fun i hi j hj=>?_⟩)
   have hi':i<l.length:=by simpa[ints,dY]using hi
   have hj0:j=0:=by
    have:((ints (dI l))[i]).length=1:=by simp[ints]
    omega
   subst hj0
   refine⟨_,by rw[Nat.mul_one,Nat.add_zero];exact hcells i hi',?_⟩
   have hx:((ints (dI l))[i])[0]= .v (.int .i64 ((dI l)[i]'(by rw[dY];exact hi'))):=by simp[ints]
   rw[hx]
   exact .v _ rfl
  ·rw[List.getElem?_set_ne (Ne.symm hji)]at hj
   refine(hR.obj j o hj).cw hR hS rfl fun B c hp=>?_
   have hBne:B≠B':=fun h=>hji (hR.inj j id B c cap (al hj) hid hp (h▸h3))
   have hob:=hR.obj j o hj
   have hlt:B<w.heap.size:=by
    have hs:∀{x},w.heap[B]?=some x→B<w.heap.size:=fun hx=>by
     rcases Nat.lt_or_ge B w.heap.size with h|h
     ·exact h
     ·simp[Array.getElem?_eq_none h]at hx
    cases hob with
    |arr e k ag es hk hes h=>
     rcases h with⟨h0,_⟩|⟨B',cap,cur,h1,h2,_⟩
     ·rw[hp]at h0;cases h0
     ·rw[hp]at h1;cases h1;exact hs h2
    |box e k ag n cs B' cap cur _ _ hp' hb'=>rw[hp]at hp';cases hp';exact hs hb'
    |mp kk es B' cap ents clock hp' hb'=>rw[hp]at hp';cases hp';exact hs hb'
    |dead ag hp'=>rw[hp]at hp';cases hp'
    |iter m since seen B' cap bm cm kk es hp' hb'=>rw[hp]at hp';cases hp';exact hs hb'
    |lp r s B' cap hp' hb'=>rw[hp]at hp';cases hp';exact hs hb'
   exact hother B hlt hBne
 ·obtain⟨v,hv⟩:=hR.live a ha
  exact⟨v,hS.cell hR a v ha hv⟩
end Go.Proofs.YtggohfhfocgilaaGreat
namespace Go.Proofs.YtggohfhfocgilaaGreat
namespace St
variable {α:Type} {eq:α→α→Bool}
def ow(eq:α→α→Bool):α→List α→List α
 |_,[]=>[]
 |p,y::t=>if eq y p=true then ow eq y t else y::ow eq y t
def ay(eq:α→α→Bool):List α→List α
 |[]=>[]
 |x::t=>x::ow eq x t
theorem tz:∀(p:α) (t:List α) (x:α),ow eq p (t++[x])=ow eq p t++(if eq x ((p::t).getLast (by simp))=true then[]else[x])
 |p,[],x=>by cases h:eq x p<;>simp[ow,h]
 |p,y::t,x=>by
  simp only[List.cons_append,ow,tz y t x]
  have e:(p::y::t).getLast (by simp)=(y::t).getLast (by simp):=List.getLast_cons (by simp)
  rw[e]
  by_cases h:eq y p=true
  ·simp[h]
  ·simp[h]
theorem ej{M:List α}{x y:α}{k:Nat}(hk:M.length=k+1)(hy:M[k]?=some y):ay eq (M++[x])=ay eq M++(if eq x y=true then[]else[x]):=by
 cases M with
 |nil=>simp at hk
 |cons p t=>
  simp only[List.cons_append,ay,tz]
  have:(p::t).getLast (by simp)=y:=by
   rw[List.getLast_eq_getElem]
   have h:=List.getElem?_eq_some_iff.1 hy
   obtain⟨h1,h2⟩:=h
   simp only[List.length_cons]at hk
   simp only[List.length_cons,show t.length+1-1=k by omega]
   exact h2
  rw[this]
theorem rJ(p:α)(t:List α):(ow eq p t).length≤t.length:=by
 induction t generalizing p with
 |nil=>simp[ow]
 |cons y t ih=>unfold ow;split<;>simp;exact Nat.le_succ_of_le (ih y);exact ih y
theorem rF(l:List α):(ay eq l).length≤l.length:=by
 cases l with
 |nil=>simp[ay]
 |cons x t=>simpa[ay]using rJ x t
end St
end Go.Proofs.YtggohfhfocgilaaGreat
namespace Go.Proofs.YtggohfhfocgilaaGreat
open Go.Proofs.YtggohfhfocgilaaGreatAw Go.RowKit
namespace CI
def eI(x:Int):List D:=[.v (.int .i64 x)]
def iu(x y:Int):Bool:=decide (x=y)
def aH(H:aa)(id ag:Nat)(L:List Int):aa:=H.set id (.arr 3 1 ag (L.map eI))
theorem cf{H:aa}{id:Nat}(h:id<H.length)(ag:Nat)(L:List Int):(aH H id ag L)[id]?=some (.arr 3 1 ag (L.map eI)):=by simp[aH,h]
theorem dT(H:aa)(id ag:Nat)(L:List Int)(v:Nat)(es:List (List D)):(aH H id ag L).set id (.arr 3 1 v es)=H.set id (.arr 3 1 v es):=by simp[aH]
theorem dp(H:aa)(id ag:Nat)(L:List Int):H.set id (.arr 3 1 ag (L.map eI))=aH H id ag L:=rfl
theorem aD{L:List Int}{i:Nat}{x:Int}(h:L[i]?=some x):(L.map eI)[i]?=some (eI x):=by simp[h]
theorem b8(L:List Int)(i:Nat)(x:Int):(L.map eI).set i (eI x)=(L.set i x).map eI:=by simp[List.map_set]
theorem cg{α:Type}{A B:List α}{x y:α}{n:Nat}(h:A.length=n):(A++x::B).set n y=A++y::B:=by subst h;simp
def nr:List D:=[.v (.int .i64 0)]
def gm(H:aa)(id ag:Nat)(c:Int→Int→Bool)(L:List Int):aa:=H.set id (.arr 3 1 ag ((St.ay c L).map eI++List.replicate (L.length-(St.ay c L).length) nr))
theorem fi(H:aa)(id ag:Nat)(c:Int→Int→Bool)(L:List Int)(h:St.ay c L=L):gm H id ag c L=aH H id ag L:=by
 unfold gm aH
 rw[h,Nat.sub_self,List.replicate_zero,List.append_nil]
theorem gV(H:aa)(id ag:Nat)(hid:id<H.length)(n:Nat)(hbig:n≤100000000000)(L:List Int)(hn:L.length=n):
  ah Tryz.prog 115 [.sl id ag 0 n] (aH H id ag L) (.ok (.sl id ag 0 (St.ay iu L).length)) (gm H id ag iu L):=by
 have gh:=cf hid ag L
 generalize hE1:gm H id ag iu L=E1
 by_cases h2:n<2
 ·have hsame:St.ay iu L=L:=by
   cases L with
   |nil=>rfl
   |cons x t=>
    cases t with
    |nil=>rfl
    |cons y t=>simp at hn;omega
  have he:aH H id ag L=E1:=by rw[←hE1,fi _ _ _ _ _ hsame]
  rw[hsame,hn]
  generalize aH H id ag L=E0 at*
  subst he
  refine ah.aj (hint:=(fun _=>false)) Tryz.func115 (by kernel_rfl) rfl [2] (by kernel_rfl) (by decide) (by simp[Tryz.ntmps115]) ?_
  rw[Tryz.ntmps115]
  simp -implicitDefEqProofs only[↓reduceIte,go_sem,Nat.reduceLT,reduceCtorEq,gh,show((n:Int)<2)=True from eq_true (by omega)]
  refine ao.aF ?_
  simp -implicitDefEqProofs only[↓reduceIte,go_sem,Nat.reduceLT]
 generalize hE0:aH H id ag L=E0 at gh
 refine ah.aj (hint:=(fun _=>false)) Tryz.func115 (by kernel_rfl) rfl [2] (by kernel_rfl) (by decide) (by simp[Tryz.ntmps115]) ?_
 rw[Tryz.ntmps115]
 simp -implicitDefEqProofs only[↓reduceIte,go_sem,Nat.reduceLT,reduceCtorEq,gh,show((n:Int)<2)=False from eq_false (by omega)]
 refine aP (fun k s H'=>H'=E0∧St.ay iu (L.take (k+1))=L.take (k+1)∧s 0= .sl id ag 0 n∧s 3=iA ((k:Int)+1)) (n-1) (by omega) (an.refl _ _) ?_ ?_ ?_
 ·refine⟨rfl,?_,?_⟩
  ·cases L<;>rfl
  ·simp -implicitDefEqProofs only[↓reduceIte,go_sem,Nat.reduceLT,Int.reduceAdd,reduceCtorEq]
 ·rintro k s H' hk hw ⟨rfl,hp,t0,t5⟩
  obtain⟨q,hq⟩:∃q,q=k+1:=⟨_,rfl⟩
  obtain⟨x,hx⟩:∃x,L[q]?=some x:=⟨_,List.getElem?_eq_getElem (by omega)⟩
  obtain⟨y,hy⟩:∃y,L[k]?=some y:=⟨_,List.getElem?_eq_getElem (by omega)⟩
  have e1:L.take (q+1)=L.take q++[x]:=by rw[List.take_add_one,hx];rfl
  have hsn:St.ay iu (L.take (q+1))=St.ay iu (L.take q)++(if iu x y=true then[]else[x]):=by
   rw[e1]
   exact St.ej (k:=k) (by rw[List.length_take];omega) (by rw[List.getElem?_take,if_pos (by omega)];exact hy)
  rw[←hq]at hp
  have f1:((k:Int)+1)=(q:Int):=by omega
  rw[f1]at t5
  have gx:=aD hx
  have gy:=aD hy
  have w1:IntKind.i64.wrap ((q:Int)-1)=(k:Int):=by rw[wrap64_in _ (by omega) (by omega)];omega
  have w2:IntKind.i64.wrap ((q:Int)+1)=(q:Int)+1:=wrap64_in _ (by omega) (by omega)
  have hqn:q<n:=by omega
  have hkn:k<n:=by omega
  simp only[eI]at gx gy
  simp -implicitDefEqProofs only[↓reduceIte,go_sem,Nat.reduceLT,Nat.reduceEqDiff,reduceCtorEq,t0,t5,gh,eq_true hqn]
  refine aR K.mixed (by kernel_rfl) ?_
  simp -implicitDefEqProofs only[↓reduceIte,go_sem,ae,Nat.reduceLT,Nat.reduceEqDiff,reduceCtorEq,t0,t5,gh,gx,gy,hqn,hkn,w1]
  by_cases hxy:x=y
  case neg=>
   have hcc:iu x y=false:=by simp[iu,hxy]
   rw[hcc]at hsn
   refine cx (by simp -implicitDefEqProofs only[go_sem,hxy]) ?_
   simp -implicitDefEqProofs only[↓reduceIte,go_sem,Nat.reduceLT,Nat.reduceEqDiff,t5,w2]
   refine cO.same ⟨rfl,?_,?_⟩
   ·rw[←hq,hsn,hp,e1];rfl
   ·simp -implicitDefEqProofs only[↓reduceIte,go_sem,Nat.reduceLT,reduceCtorEq,t0,show((k:Int)+1)=(q:Int) by omega]
  case pos=>
   have hcc:iu x y=true:=by simp[iu,hxy]
   rw[hcc]at hsn
   refine cF (by simp -implicitDefEqProofs only[go_sem,hxy]) ?_
   have hsn2:St.ay iu (L.take (q+1))=L.take q:=by rw[hsn,hp];simp
   simp -implicitDefEqProofs only[↓reduceIte,go_sem,Nat.reduceLT,Nat.reduceEqDiff,reduceCtorEq,t0,t5,gh]
   refine⟨by omega,.inr (by omega),?_⟩
   have hnq:((n:Int).toNat-q)=n-q:=by omega
   refine aP (fun k2 s H'=>(∃C K1,H'=aH H id ag C∧C=K1++L.drop K1.length∧K1=St.ay iu (L.take (q+k2+1))∧K1.length≤q+k2∧s 3=iA K1.length)∧s 0= .sl id ag 0 n∧s 4= .sl id ag q (n-q)∧s 5=iA ((k2:Int)+1)) (n-q-1) (by omega) (an.refl _ _) ?_ ?_ ?_
   ·refine⟨⟨L,L.take q,hE0.symm,?_,?_,?_,?_⟩,?_⟩
    ·rw[List.length_take,Nat.min_eq_left (by omega),List.take_append_drop]
    ·rw[Nat.add_zero];exact hsn2.symm
    ·rw[List.length_take];omega
    ·rw[List.length_take,Nat.min_eq_left (by omega)];simp -implicitDefEqProofs only[↓reduceIte,go_sem,Nat.reduceEqDiff,t5]
    ·simp -implicitDefEqProofs only[↓reduceIte,go_sem,Nat.reduceLT,Nat.reduceEqDiff,Int.reduceAdd,reduceCtorEq,t0]
   ·rintro k2 s H' hk2 hw3 ⟨⟨C,K1,rfl,hC,hK1,hKl,t5⟩,t0,t6,t7⟩
    obtain⟨u,hu⟩:∃u,u=k2+1:=⟨_,rfl⟩
    obtain⟨v,hv⟩:∃v,v=q+u:=⟨_,rfl⟩
    obtain⟨x2,hx2⟩:∃x,L[v]?=some x:=⟨_,List.getElem?_eq_getElem (by omega)⟩
    obtain⟨y2,hy2⟩:∃y,L[v-1]?=some y:=⟨_,List.getElem?_eq_getElem (by omega)⟩
    have hCg:∀i,K1.length≤i→C[i]?=L[i]?:=fun i hi=>by
     rw[hC,List.getElem?_append_right hi,List.getElem?_drop,Nat.add_sub_cancel' hi]
    have hCl:C.length=n:=by rw[hC,List.length_append,List.length_drop];omega
    have e2:L.take (v+1)=L.take v++[x2]:=by rw[List.take_add_one,hx2];rfl
    have hsn3:St.ay iu (L.take (v+1))=K1++(if iu x2 y2=true then[]else[x2]):=by
     rw[e2,hK1,show q+k2+1=v by omega]
     exact St.ej (k:=v-1) (by rw[List.length_take];omega) (by rw[List.getElem?_take,if_pos (by omega)];exact hy2)
    have gx2:=aD ((hCg v (by omega)).trans hx2)
    have gy2:=aD ((hCg (v-1) (by omega)).trans hy2)
    have gC:=cf hid ag C
    have f2:((k2:Int)+1)=(u:Int):=by omega
    rw[f2]at t7
    have w3:IntKind.i64.wrap ((u:Int)-1)=(k2:Int):=by rw[wrap64_in _ (by omega) (by omega)];omega
    have w4:IntKind.i64.wrap ((u:Int)+1)=(u:Int)+1:=wrap64_in _ (by omega) (by omega)
    have f3:q+u=v:=hv.symm
    have f4:q+k2=v-1:=by omega
    have hun:u<n-q:=by omega
    have hkn2:k2<n-q:=by omega
    simp only[eI]at gx2 gy2
    simp -implicitDefEqProofs only[↓reduceIte,go_sem,Nat.reduceLT,Nat.reduceEqDiff,t6,t7,gC,eq_true hun]
    refine aR K.mixed (by kernel_rfl) ?_
    simp -implicitDefEqProofs only[↓reduceIte,go_sem,ae,Nat.reduceLT,Nat.reduceEqDiff,t6,t7,gC,w3,hun,hkn2,f3,f4,gx2,gy2]
    by_cases hxy2:x2=y2
    case pos=>
     have hc2:iu x2 y2=true:=by simp[iu,hxy2]
     rw[hc2]at hsn3
     refine cx (by simp -implicitDefEqProofs only[go_sem,hxy2]) ?_
     simp -implicitDefEqProofs only[↓reduceIte,go_sem,Nat.reduceLT,Nat.reduceEqDiff,t7,w4]
     refine cO.same ⟨⟨C,K1,rfl,hC,?_,by omega,?_⟩,?_⟩
     ·rw[show q+(k2+1)+1=v+1 by omega,hsn3];simp
     ·simp -implicitDefEqProofs only[↓reduceIte,go_sem,Nat.reduceEqDiff,t5]
     ·simp -implicitDefEqProofs only[↓reduceIte,go_sem,Nat.reduceLT,Nat.reduceEqDiff,reduceCtorEq,t0,t6,show((k2:Int)+1)=(u:Int) by omega]
    case neg=>
     have hc2:iu x2 y2=false:=by simp[iu,hxy2]
     rw[hc2]at hsn3
     refine cF (by simp -implicitDefEqProofs only[go_sem,hxy2]) ?_
     obtain⟨r,hr⟩:∃r,r=K1.length:=⟨_,rfl⟩
     rw[←hr]at t5
     have hrn:r<n:=by omega
     have w5:IntKind.i64.wrap ((r:Int)+1)=((r+1:Nat):Int):=by rw[wrap64_in _ (by omega) (by omega)];omega
     obtain⟨r2,hr2⟩:∃r2,r2=r+1:=⟨_,rfl⟩
     rw[←hr2]at w5
     have s1:=b8 C r x2
     obtain⟨z0,hz0⟩:∃z,C[r]?=some z:=⟨_,List.getElem?_eq_getElem (by omega)⟩
     have gz:=aD hz0
     simp only[eI]at s1 gz
     simp -implicitDefEqProofs only[↓reduceIte,go_sem,ae,aw,Nat.reduceLT,Nat.reduceEqDiff,reduceCtorEq,t0,t5,t6,t7,gC,hun,hrn,f3,gx2,gz,s1,dT,w4,w5]
     refine cO.same ⟨⟨C.set r x2,K1++[x2],by rw[←dp],?_,?_,?_,?_⟩,?_⟩
     ·have e3:L.drop r=L[r]'(by omega)::L.drop (r+1):=List.drop_eq_getElem_cons (by omega)
      rw[hC,←hr,e3,cg hr.symm];simp[hr]
     ·rw[show q+(k2+1)+1=v+1 by omega,hsn3];simp
     ·rw[List.length_append,List.length_singleton];omega
     ·simp -implicitDefEqProofs only[↓reduceIte,go_sem,Nat.reduceLT,Nat.reduceEqDiff,List.length_append,show((K1.length:Int)+1)=(r2:Int) by omega]
     ·simp -implicitDefEqProofs only[↓reduceIte,go_sem,Nat.reduceLT,Nat.reduceEqDiff,reduceCtorEq,t0,t6,show((k2:Int)+1)=(u:Int) by omega]
   ·rintro s H' ⟨⟨C,K1,rfl,hC,hK1,hKl,t5⟩,t0,t6,t7⟩
    have hK2:St.ay iu L=K1:=by rw[hK1,List.take_of_length_le (by omega)]
    have hCl:C.length=n:=by rw[hC,List.length_append,List.length_drop];omega
    have gC:=cf hid ag C
    have hlt:((((n-q-1:Nat):Int)+1)<((n-q:Nat):Int))=False:=eq_false (by omega)
    obtain⟨r,hr⟩:∃r,r=K1.length:=⟨_,rfl⟩
    rw[←hr]at t5
    have hrn:((n:Int).toNat-r)=n-r:=by omega
    have hCt:C.take r=K1:=by rw[hC,hr,List.take_left]
    have hsr:bL (C.map eI) r (eA (.int .i64 0) (n-r))=(St.ay iu L).map eI++List.replicate (L.length-(St.ay iu L).length) nr:=by
     unfold bL
     rw[←List.map_take,hCt,List.drop_of_length_le (by simp[eA];omega),List.append_nil,hK2,hn,←hr]
     rfl
    have hfo:H.set id (.arr 3 1 ag ((St.ay iu L).map eI++List.replicate (L.length-(St.ay iu L).length) nr))=E1:=hE1
    have gE:E1[id]?=some (.arr 3 1 ag ((St.ay iu L).map eI++List.replicate (L.length-(St.ay iu L).length) nr)):=by rw[←hfo];simp[hid]
    simp -implicitDefEqProofs only[↓reduceIte,go_sem,Nat.reduceLT,Nat.reduceEqDiff,reduceCtorEq,t0,t5,t6,t7,gC,hlt]
    refine⟨by omega,.inr (by omega),?_⟩
    rw[hsr,dT,hfo]
    simp -implicitDefEqProofs only[↓reduceIte,go_sem,Nat.reduceLT,Int.reduceLE,Int.reduceToNat,gE]
    refine⟨by omega,.inl trivial,_,an.refl _ _,?_⟩
    simp -implicitDefEqProofs only[↓reduceIte,go_sem,Nat.reduceLT,hK2,←hr,Nat.sub_zero]
 ·rintro s H' ⟨rfl,hp,t0,t5⟩
  have hsame:St.ay iu L=L:=by rwa[show n-1+1=n by omega,←hn,List.take_length]at hp
  have he:H'=E1:=by rw[←hE1,fi _ _ _ _ _ hsame,hE0]
  simp -implicitDefEqProofs only[↓reduceIte,go_sem,Nat.reduceLT,Nat.reduceEqDiff,reduceCtorEq,t0,t5,gh,show(((n-1:Nat):Int)+1<(n:Int))=False from eq_false (by omega)]
  rw[←he,hsame,hn]
  refine ao.aF ?_
  simp -implicitDefEqProofs only[↓reduceIte,go_sem,Nat.reduceLT]
end CI
end Go.Proofs.YtggohfhfocgilaaGreat
namespace Go.Proofs.YtggohfhfocgilaaGreatAw
open Go.RowKit
theorem ah.freeze{P:Program}{f:FuncId}(pre:List AV){post:List AV}{id k ag off len:Nat}{e:TypeId}{es:List (List D)}{H H':aa}{res:lK}(ho:H[id]?=some (.arr e k ag es))
  (h:ah P f (pre++ .d (.list false ((es.drop off).take len))::post) (H.set id (.arr e k (ag+1) [])) res H'):ah P f (pre++ .sl id ag off len::post) H res H':=by
 intro φ N w vals hR hA
 obtain⟨φ1,N1,hR1,hS1,hv⟩:=hR.freeze ho
 have hA1:oG (H.set id (.arr e k (ag+1) [])) φ1 N1 w (pre++ .d (.list false ((es.drop off).take len))::post) vals:=by
  refine⟨by rw[←hA.1];simp,fun i h1 h2=>?_⟩
  have h3:=hA.2 i (by simpa using h1) h2
  by_cases hi:i=pre.length
  ·subst hi
   simp only[List.getElem_append_right (Nat.le_refl _),Nat.sub_self,List.getElem_cons_zero]at h3⊢
   exact hv off len _ h3
  ·rcases Nat.lt_or_ge i pre.length with hlt|hge
   ·rw[List.getElem_append_left hlt]at h3⊢
    exact h3.since hR hS1
   ·rw[List.getElem_append_right hge]at h3⊢
    obtain⟨j,hj⟩:∃j,i-pre.length=j+1:=⟨i-pre.length-1,by omega⟩
    simp only[hj,List.getElem_cons_succ]at h3⊢
    exact h3.since hR hS1
 have h4:=h φ1 N1 w vals hR1 hA1
 have go:∀e' w',(∃φ' N',Rel H' φ' N' w'∧ar (H.set id (.arr e k (ag+1) [])) φ1 N1 w H' φ' N' w'∧qx H' φ' N' w' res e')→∃φ' N',Rel H' φ' N' w'∧ar H φ N w H' φ' N' w'∧qx H' φ' N' w' res e':=by
  rintro e' w' ⟨φ',N',hR',hS',hE⟩
  exact⟨φ',N',hR',hS1.trans hS',hE⟩
 rcases h4 with⟨h5,h6⟩|⟨v,w',h5,h6⟩
 ·exact .inl ⟨h5,h6.mono go⟩
 ·exact .inr ⟨v,w',h5,go _ _ h6⟩
theorem ab.qd{P:Program}{f:FuncId}(pre:List AV){post:List AV}{id k ag off len:Nat}{e:TypeId}{es:List (List D)}{H H':aa}{K:AV→aa→Prop}{KP:Value→aa→Prop}{r:AV}(ho:H[id]?=some (.arr e k ag es))
  (h:ah P f (pre++ .d (.list false ((es.drop off).take len))::post) (H.set id (.arr e k (ag+1) [])) (.ok r) H') (hk:K r H'):ab P f (pre++ .sl id ag off len::post) H K KP:=ab.ok (ah.freeze pre ho h) hk
end Go.Proofs.YtggohfhfocgilaaGreatAw
namespace Go.Proofs.YtggohfhfocgilaaGreat
open Go.Proofs.YtggohfhfocgilaaGreatAw Go.RowKit
theorem nT(l:List Int):(∀c∈ints l,c.length=1)=True:=eq_true fun c hc=>by obtain⟨x,_,rfl⟩:=List.mem_map.1 hc;rfl
theorem si(l m:List Int)(n1 n2:Bool)(H:aa)(hl:l.length≤9223372036854775807):
  ah Tryz.prog 15 [.d (.list n1 (ints l)),.d (.list n2 (ints m))] H (.ok (bA (decide (l=m)))) H:=by
 refine ah.aj (hint:=(fun _=>false)) Tryz.func15 (by kernel_rfl) rfl [4] (by kernel_rfl) (by decide) (by simp[Tryz.ntmps15]) ?_
 rw[Tryz.ntmps15]
 simp -implicitDefEqProofs only[↓reduceIte,go_sem,Nat.reduceLT,Nat.reduceEqDiff,reduceCtorEq,az]
 by_cases hlm:l.length=m.length
 ·refine cx (by simp -implicitDefEqProofs only[go_sem,hlm]) ?_
  simp -implicitDefEqProofs only[go_sem]
  refine aP (fun k s H'=>H'=H∧l.take k=m.take k∧s 0= .d (.list n1 (ints l))∧s 1= .d (.list n2 (ints m))∧s 5=iA k) l.length hl (an.refl _ _) ?_ ?_ ?_
  ·simp -implicitDefEqProofs only[↓reduceIte,go_sem,Nat.reduceLT,Nat.reduceEqDiff,reduceCtorEq,List.take_zero]
  ·rintro k s H' hk hw ⟨rfl,hp,h0,h1,h5⟩
   have hx:=b5 l k hk
   have hy:=b5 m k (by omega)
   have e1:=List.take_succ_eq_append_getElem hk
   have e2:=List.take_succ_eq_append_getElem (show k<m.length by omega)
   have e3:∀(g:l=m),l[k]=m[k]'(by omega):=by intro g;subst g;rfl
   generalize l[k]=x at hx e1 e3
   generalize m[k]'(by omega)=y at hy e2 e3
   simp -implicitDefEqProofs only[↓reduceIte,go_sem,Nat.reduceLT,Nat.reduceEqDiff,reduceCtorEq,h0,h5,hk,az]
   refine aR K.mixed (by kernel_rfl) ?_
   simp -implicitDefEqProofs only[↓reduceIte,go_sem,Nat.reduceLT,Nat.reduceEqDiff,reduceCtorEq,h0,h1,h5,hx,hy]
   by_cases hxy:x=y
   ·refine cx (by simp -implicitDefEqProofs only[go_sem,hxy]) ?_
    simp -implicitDefEqProofs only[↓reduceIte,go_sem,Nat.reduceLT,Nat.reduceEqDiff,h5]
    refine cO.same ⟨rfl,by rw[e1,e2,hp,hxy],?_⟩
    simp -implicitDefEqProofs only[↓reduceIte,go_sem,Nat.reduceLT,Nat.reduceEqDiff,reduceCtorEq,h0,h1,hw]
   ·refine cF (by simp -implicitDefEqProofs only[go_sem,hxy]) ?_
    simp -implicitDefEqProofs only[go_sem]
    refine ao.aF ?_
    simp -implicitDefEqProofs only[↓reduceIte,go_sem,Nat.reduceLT,show ¬l=m from fun g=>hxy (e3 g)]
  ·rintro s H' ⟨rfl,hp,h0,h1,h5⟩
   simp -implicitDefEqProofs only[↓reduceIte,go_sem,Nat.reduceLT,Nat.reduceEqDiff,reduceCtorEq,h0,h5,az]
   refine ao.aF ?_
   rw[List.take_length,hlm,List.take_length]at hp
   simp -implicitDefEqProofs only[↓reduceIte,go_sem,Nat.reduceLT,hp]
 ·simp -implicitDefEqProofs only[go_sem,show((l.length:Int)=(m.length:Int))=False from eq_false (by omega)]
  refine ao.aF ?_
  simp -implicitDefEqProofs only[↓reduceIte,go_sem,Nat.reduceLT,show ¬l=m from fun g=>hlm (by rw[g])]
def cC(x:Int)(l:List Int):Int:=if x∈l then(l.idxOf x:Nat)else -1
theorem sT(x:Int)(l:List Int):(0≤cC x l)=(x∈l):=by unfold cC;split<;>simp[*]
theorem nQ{l:List Int}{k:Nat}(hk:k<l.length)(h:∀i (hi:i<k) (hl:i<l.length),¬l[i]=l[k]):cC l[k] l=k:=by
 unfold cC
 rw[if_pos (List.getElem_mem hk)]
 congr 1
 rw[List.idxOf,List.findIdx_eq hk]
 exact⟨by simp,fun j hj=>by simpa using h j hj (by omega)⟩
theorem lR{x:Int}{l:List Int}(h:∀i (hl:i<l.length),¬l[i]=x):cC x l=-1:=by
 unfold cC
 rw[if_neg]
 intro hx
 obtain⟨i,hi,e⟩:=List.mem_iff_getElem.1 hx
 exact h i hi e
theorem jk(l:List Int)(x:Int)(n1:Bool)(H:aa)(hl:l.length≤9223372036854775807):
  ah Tryz.prog 98 [.d (.list n1 (ints l)),iA x] H (.ok (iA (cC x l))) H:=by
 refine ah.aj (hint:=(fun _=>false)) Tryz.func98 (by kernel_rfl) rfl [4] (by kernel_rfl) (by decide) (by simp[Tryz.ntmps98]) ?_
 rw[Tryz.ntmps98]
 simp -implicitDefEqProofs only[↓reduceIte,go_sem,Nat.reduceLT,Int.reduceNeg,reduceCtorEq,az]
 refine bf (fun k s H'=>H'=H∧(∀i (hi:i<k) (hl:i<l.length),¬l[i]=x)∧s 0= .d (.list n1 (ints l))∧s 1=iA x∧s 7=iA l.length∧s 8=iA k) l.length hl (an.refl _ _) ?_ ?_ ?_
 ·refine⟨rfl,fun i hi=>by omega,?_⟩
  simp -implicitDefEqProofs only[↓reduceIte,go_sem,Nat.reduceLT,Nat.reduceEqDiff,reduceCtorEq]
 ·rintro k s H' hk hw ⟨rfl,hp,h0,h1,h7,h8⟩
  have hx:=b5 l k hk
  have hit:x=l[k]→cC x l=k:=fun e=>by rw[e];exact nQ hk fun i hi hl'=>by rw[←e];exact hp i hi hl'
  have hpp:¬x=l[k]→∀i (hi:i<k+1) (hl:i<l.length),¬l[i]=x:=fun h0 i hi hl'=>by
   rcases Nat.lt_or_ge i k with h|h
   ·exact hp i h hl'
   ·obtain rfl:i=k:=by omega
    exact fun e=>h0 e.symm
  generalize l[k]=y at hx hit hpp
  simp -implicitDefEqProofs only[↓reduceIte,go_sem,Nat.reduceLT,Nat.reduceEqDiff,reduceCtorEq,h0,h1,h7,h8,hk,hx]
  by_cases hxy:x=y
  ·refine cF (by simp -implicitDefEqProofs only[go_sem,hxy]) ?_
   simp -implicitDefEqProofs only[↓reduceIte,go_sem,Nat.reduceLT,Nat.reduceEqDiff]
   refine ao.aF ?_
   simp -implicitDefEqProofs only[↓reduceIte,go_sem,Nat.reduceLT,hit hxy]
  ·refine cx (by simp -implicitDefEqProofs only[go_sem,hxy]) ?_
   simp -implicitDefEqProofs only[↓reduceIte,go_sem,Nat.reduceLT,Nat.reduceEqDiff,h8]
   refine cO.same ⟨rfl,hpp hxy,?_⟩
   simp -implicitDefEqProofs only[↓reduceIte,go_sem,Nat.reduceLT,Nat.reduceEqDiff,reduceCtorEq,h0,h1,h7,hw]
 ·rintro s H' ⟨rfl,hp,h0,h1,h7,h8⟩
  simp -implicitDefEqProofs only[↓reduceIte,go_sem,Nat.reduceLT,Int.reduceNeg,h7,h8]
  refine ao.aF ?_
  simp -implicitDefEqProofs only[↓reduceIte,go_sem,Nat.reduceLT,Int.reduceNeg,lR fun i hi=>hp i hi hi]
theorem oz(l:List Int)(x:Int)(n1:Bool)(H:aa)(hl:l.length≤9223372036854775807):
  ah Tryz.prog 64 [.d (.list n1 (ints l)),iA x] H (.ok (bA (decide (x∈l)))) H:=by
 refine ah.aj (hint:=(fun _=>false)) Tryz.func64 (by kernel_rfl) rfl [4] (by kernel_rfl) (by decide) (by simp[Tryz.ntmps64]) ?_
 rw[Tryz.ntmps64]
 simp -implicitDefEqProofs only[↓reduceIte,go_sem,Nat.reduceLT,Nat.reduceEqDiff,reduceCtorEq]
 refine ab.ok (jk l x n1 H hl) ?_
 simp -implicitDefEqProofs only[↓reduceIte,go_sem,Nat.reduceLT,sT]
 refine ao.aF ?_
 simp -implicitDefEqProofs only[↓reduceIte,go_sem,Nat.reduceLT]
theorem Cz{P:Program}(d:Nat)(t e:TypeId)(h:P.underlying t=some (.slice e))(w:World):(Op.equalIn (d+1) t (.slice none 0 0) (.slice none 0 0)).run P w= .ok true w:=by simp[Op.equalIn,run_underlying h]
theorem yp{P:Program}{t e:TypeId}(hu:P.underlying t=some (.slice e)):bH P .eql t (.slice none 0 0) (.slice none 0 0) (.bool true):=fun x y w=>by
 have hg:(eqGuard .eql t x y (.slice none 0 0) (.slice none 0 0)).run P w= .ok () w:=by simp[eqGuard]
 have he:(Op.equal t (.slice none 0 0) (.slice none 0 0)).run P w= .ok true w:=Cz 9999 t e hu w
 rw[Sem.run_bind,hg]
 simp only[Result.andThen_ok,Go.binOp]
 simp[he]
theorem ym(K:Value→Prop):ck Tryz.prog .eql 23 (.slice none 0 0) (.slice none 0 0) K=K (.bool true):=by
 have h:bH Tryz.prog .eql 23 (.slice none 0 0) (.slice none 0 0) (.bool true):=yp (e:=3) (by kernel_rfl)
 have:ck Tryz.prog .eql 23 (.slice none 0 0) (.slice none 0 0) K=∃r,bH Tryz.prog .eql 23 (.slice none 0 0) (.slice none 0 0) r∧K r:=by unfold ck;rfl
 rw[this]
 exact propext ⟨fun⟨r',h',k⟩=>by rw[h.inj h'];exact k,fun k=>⟨_,h,k⟩⟩
theorem dk(H:aa):ah Tryz.prog 73 [.d (.v (.slice none 0 0))] H (.ok (.d (.v (.slice none 0 0)))) H:=by
 refine ah.aj (hint:=(fun _=>false)) Tryz.func73 (by kernel_rfl) rfl [2] (by kernel_rfl) (by decide) (by simp[Tryz.ntmps73]) ?_
 rw[Tryz.ntmps73]
 simp -implicitDefEqProofs only[↓reduceIte,go_sem,Nat.reduceLT,reduceCtorEq,ym]
 refine ao.aF ?_
 simp -implicitDefEqProofs only[↓reduceIte,go_sem,Nat.reduceLT]
theorem qC{l:List Int}(h:0<l.length):(ints l).isEmpty=false:=by cases l with|nil=>simp at h|cons=>rfl
theorem ec(l:List Int)(n1:Bool)(H:aa)(h0:0<l.length)(hl:l.length≤1000000000000):ah Tryz.prog 73 [.d (.list n1 (ints l))] H (.ok (.d (.list false (ints l)))) H:=by
 have e1:=qC h0
 refine ah.aj (hint:=(fun _=>false)) Tryz.func73 (by kernel_rfl) rfl [2] (by kernel_rfl) (by decide) (by simp[Tryz.ntmps73]) ?_
 rw[Tryz.ntmps73]
 simp -implicitDefEqProofs only[↓reduceIte,go_sem,Nat.reduceLT,Nat.reduceEqDiff,reduceCtorEq,e1,nT,az]
 refine⟨by omega,by omega,ao.ret ?_⟩
 simp -implicitDefEqProofs only[↓reduceIte,go_sem,Nat.reduceLT,cN,az]
end Go.Proofs.YtggohfhfocgilaaGreat
