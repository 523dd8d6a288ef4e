/- Contracts of functions and lemmas for costPlans_holds, part 5. -/
import Derived.Laws.Externs
import Derived.Laws.Bits64b
import Derived.Laws.Bits64
import Derived.Test.YtggohfhfocgilaaGreatM04
set_option maxHeartbeats 8000000
set_option maxRecDepth 100000
set_option linter.all false
namespace Go.Proofs.YtggohfhfocgilaaGreatAw
open Go.RowKit
def Ext(B H:aa):Prop:=∀(id:Nat) (o:aA),B[id]?=some o→o.live=true→H[id]?=some o
theorem Ext.refl(B:aa):Ext B B:=fun _ _ h _=>h
theorem Ext.app(B T:aa):Ext B (B++T):=fun id o h _=>by rw[List.getElem?_append_left (al h)];exact h
def z6:aa→aa→Prop
 |[],_=>True
 |o::os,o'::os'=>(o.live=true→o'=o)∧z6 os os'
 |_::_,[]=>False
theorem z6.get:∀{B T:aa},z6 B T→∀(i:Nat) (o:aA),B[i]?=some o→o.live=true→T[i]?=some o
 |[],_,_,i,o,h,_=>by simp at h
 |b::B,[],h,i,o,_,_=>h.elim
 |b::B,t::T,h,0,o,ho,hl=>by
  simp only[List.getElem?_cons_zero,Option.some.injEq]at ho⊢
  subst ho
  exact h.1 hl
 |b::B,t::T,h,i+1,o,ho,hl=>by
  rw[List.getElem?_cons_succ]at ho⊢
  exact z6.get h.2 i o ho hl
theorem Ext.dc(H:aa){B T:aa}(h:z6 B T):Ext (H++B) (H++T):=fun i o ho hl=>by
 rcases Nat.lt_or_ge i H.length with hi|hi
 ·rw[List.getElem?_append_left hi]at ho⊢;exact ho
 ·rw[List.getElem?_append_right hi]at ho⊢;exact h.get _ o ho hl
def CR(hint:Bool):Op→Bool
 | .move _| .assign _| .pick .. | .build .. | .field .. | .index .. | .unOp .. | .convert .. | .extract .. | .sliceToArrayPointer .. | .makeInterface .. =>true
 | .makeFunc (.func _) _ _=>true
 | .buildSlice .. => !hint
 | .binOp op _ _ _ _=>(match op with| .eql| .neq=>false|_=>true)
 |_=>false
theorem A4{P:Program}{s:Nat→AV}{H H2:aa}{hint:Bool}{op:Op}{K:AV→aa→Prop}(h:CR hint op=true):fI P s H hint op K=fI P s H2 hint op fun r _=>K r H:=by
 by_cases hb:∃o t x y t',op= .binOp o t x y t'
 ·obtain⟨o,t,x,y,t',rfl⟩:=hb
  cases o<;>first|(unfold fI;simp only[km,Bool.false_and,Bool.false_eq_true,false_and];done)|(cases h;done)
 cases op<;>first|rfl|cases h|(exact absurd ⟨_,_,_,_,_,rfl⟩ hb)|skip
 ·cases hint
  ·unfold fI
   rfl
  ·cases h
 ·rename_i f _ _
  cases f<;>first|rfl|cases h
theorem zp{B H:aa}(hE:Ext B H){id ag i j n:Nat}{cs:List AV}(h:ae B id ag i j n=some cs):ae H id ag i j n=some cs:=by
 unfold ae at h⊢
 cases hb:B[id]? with
 |none=>rw[hb]at h;cases h
 |some o=>
  rw[hb]at h
  have hl:o.live=true:=by cases o<;>first|rfl|cases h
  rw[hE id o hb hl];exact h
theorem p5{B H:aa}(hE:Ext B H){n:Nat}{x:AV}{cs:List AV}(h:dF B n x=some cs):dF H n x=some cs:=by
 cases x with
 |ptr id ag i j=>exact zp hE h
 |bW=>exact h
 |_=>cases h
def zM:Op→Bool
 | .load .. =>true
 | .fieldAddr .. =>true
 | .indexAddr .. =>true
 | .slice _ _ _ _ none=>true
 |_=>false
theorem vg{B H:aa}(hE:Ext B H){k:Nat}{lo:Option Int}{hi:Nat→Option Int}{x:AV}{K:AV→aa→Prop}{r:AV}(h:cJ B k lo hi (fun r' _=>r'=r) x)(hk:K r H):cJ H k lo hi K x:=by
 cases x with
 |d u=>
  cases u with
  |v _=>exact h.elim
  |list nn es=>
   simp only[cJ]at h⊢
   refine⟨h.1,?_⟩
   replace h:=h.2
   cases lo with
   |none=>exact h
   |some l=>
    cases hq:hi es.length with
    |none=>rw[hq]at h;exact h
    |some m=>rw[hq]at h;exact⟨h.1,h.2.1,h.2.2.1,by rw[h.2.2.2];exact hk⟩
 |sl id ag off len=>
  simp only[cJ]at h⊢
  cases ho:B[id]? with
  |none=>rw[ho]at h;exact h.elim
  |some o=>
   rw[ho]at h
   cases lo with
   |none=>exact h.elim
   |some l=>
    cases hq:hi len with
    |none=>rw[hq]at h;exact h.elim
    |some m=>
     rw[hq]at h
     rw[hE id o ho h.1.2.2]
     exact⟨h.1,h.2.1,h.2.2.1,h.2.2.2.1,h.2.2.2.2.1,by rw[h.2.2.2.2.2];exact hk⟩
 |_=>exact h.elim
theorem pO{B H:aa}(hE:Ext B H){x:AV}(h:fresh B x=true):fresh H x=true:=by
 cases x with
 |ptr id ag i j=>
  rw[qa]at h⊢
  cases hb:B[id]? with
  |none=>rw[hb]at h;cases h
  |some o=>
   rw[hb]at h
   rw[hE id o hb (by simp only[Bool.and_eq_true]at h;exact h.2)]
   exact h
 |_=>rfl
theorem yJ{B H:aa}(hE:Ext B H){k:Nat}{i:Int}{x y:AV}(h:fH B k i x=some y):fH H k i x=some y:=by
 cases x with
 |d u=>cases u<;>exact h
 |sl id ag off len=>
  simp only[fH]at h⊢
  split at h
  ·rename_i h0
   rw[if_pos h0]
   obtain⟨ob,hob,h⟩:=Option.bind_eq_some_iff.1 h
   split at h
   ·rename_i hv
    rw[hE id ob hob hv.2.2,Option.bind_some,if_pos hv]
    exact h
   ·cases h
  ·cases h
 |_=>exact h
theorem zD{P:Program}{s:Nat→AV}{B H:aa}{hint:Bool}{op:Op}(hl:zM op=true)(hE:Ext B H){K:AV→aa→Prop}{r:AV}
  (h:fI P s B hint op fun r' _=>r'=r) (hk:K r H):fI P s H hint op K:=by
 by_cases hfa:∃t x f,op= .fieldAddr t x f
 ·obtain⟨t,x,f,rfl⟩:=hfa
  unfold fI at h⊢
  simp only at h⊢
  cases hf:FO P t f with
  |none=>rw[hf]at h;exact h
  |some of=>
   rw[hf]at h
   simp only at h⊢
   cases hi:TI P of.2 with
   |none=>rw[hi]at h;exact h
   |some z=>
    rw[hi]at h
    obtain⟨h1,h2,h⟩:=h
    refine⟨h1,pO hE h2,?_⟩
    cases ha:fe of.1 (ai s x)with
    |none=>rw[ha]at h;exact h
    |some y=>rw[ha]at h;rw[show y=r from h];exact hk
 by_cases hia:∃t x ix,op= .indexAddr t x ix
 ·obtain⟨t,x,ix,rfl⟩:=hia
  unfold fI at h⊢
  simp only at h⊢
  split at h
  ·split at h
   ·split at h
    ·split at h
     ·rename_i ha
      rw[yJ hE ha]
      rw[show _=r from h]
      exact hk
     ·exact h.elim
    ·exact h.elim
   ·split at h
    ·split at h
     ·obtain⟨h0,h1,h2,h⟩:=h
      refine⟨h0,h1,pO hE h2,?_⟩
      split at h
      ·rename_i ha
       rw[show _=r from h]
       exact hk
      ·exact h.elim
     ·exact h.elim
    ·exact h.elim
  ·exact h.elim
 cases op<;>first|(exact absurd ⟨_,_,_,rfl⟩ hfa)|(exact absurd ⟨_,_,_,rfl⟩ hia)|cases hl|skip
 rotate_left
 ·rename_i t x lo hi mx
  cases mx with
  |some _=>cases hl
  |none=>
  unfold fI at h⊢
  simp only at h⊢
  cases he:SE P t with
  |none=>
   rw[he]at h
   simp only at h⊢
   cases hae:AE P t with
   |some ne=>
    rw[hae]at h
    simp only at h⊢
    obtain⟨h1,h⟩:=h
    refine⟨h1,?_⟩
    cases hi2:TI P ne.2 with
    |none=>rw[hi2]at h;exact h
    |some z=>
     rw[hi2]at h
     obtain⟨h2,h⟩:=h
     refine⟨h2,?_⟩
     generalize ai s x=v at*
     cases v with
     |bW ds=>exact⟨h.1,by rw[show(AV.d (.list true (ds.map fun d=>[d])))=r from h.2];exact hk⟩
     |_=>exact h.elim
   |none=>
   rw[hae]at h
   obtain⟨hu,h⟩:=h
   refine⟨hu,?_⟩
   split at h
   ·rename_i c hc
    split at h
    ·rename_i l m hl hm
     first
      |exact⟨h.1,h.2.1,h.2.2.1,by rw[h.2.2.2];exact hk⟩
      |(rw[hl,hm];exact⟨h.1,h.2.1,h.2.2.1,by rw[h.2.2.2];exact hk⟩)
    ·exact h.elim
   ·exact h.elim
  |some e=>
   rw[he]at h
   simp only at h⊢
   cases hi2:TI P e with
   |none=>rw[hi2]at h;exact h
   |some z=>
    rw[hi2]at h
    obtain⟨z,k,b⟩:=z
    exact vg hE h hk
 rename_i t x
 unfold fI at h⊢
 simp only at h⊢
 cases hg:de P t with
 |none=>rw[hg]at h;exact h
 |some b=>
  rw[hg]at h
  cases b with
  |true=>
   simp only at h⊢
   split at h
   ·split at h
    ·rename_i cs hr
     rw[p5 hE hr]
     subst h
     exact hk
    ·exact h.elim
   ·exact h.elim
  |false=>
   simp only at h⊢
   split at h
   ·rename_i c hr
    rw[p5 hE hr]
    subst h
    exact hk
   ·exact h.elim
def ju(hint:Nat→Bool)(first:Bool)(o:Oper):Bool:=CR (match o.dst with|some d=>hint d|none=>false) o.op||(first&&zM o.op)
section
variable (P:Program) (hint:Nat→Bool) (n:Nat) (ops:Array Oper)
def bP(H:aa)(s:Nat→AV)(o:Oper)(r:AV)(H':aa):Prop:=match o.guard with
 |none=>∀K KP,K r H'→aB P hint s H o K KP
 |some (j,want)=>∃b,eH ops s n j want=some b∧if b=true then ∀K KP,K r H'→aB P hint s H o K KP else r= .bq []∧H'=H
end
section
variable {P:Program} {hint:Nat→Bool} {n:Nat} {ops:Array Oper} {Q:aQ}
theorem bP.op{H H':aa}{s:Nat→AV}{o:Oper}{r:AV}(h:bP P hint n ops H s o r H'){K:(Nat→AV)→aa→Prop}(hk:K (bl n s o.dst r) H'):cy P hint n ops Q o K s H:=by
 unfold bP at h
 unfold cy
 split at h
 ·rename_i hg
  simp only[hg]
  exact h (fun r H'=>K (bl n s o.dst r) H') _ hk
 ·rename_i j want hg
  obtain⟨b,hb,h⟩:=h
  simp only[hg,hb]
  split at h
  ·rw[if_pos (by assumption)];exact h (fun r H'=>K (bl n s o.dst r) H') _ hk
  ·rw[if_neg (by assumption)];rw[h.1,h.2]at hk;exact hk
theorem bP.congr{H H':aa}{s s':Nat→AV}{o:Oper}{r:AV}(h:bP P hint n ops H s o r H')(h1:∀t∈jj o,s t=s' t)(h2:∀j w,o.guard=some (j,w)→∀d,aY ops j=some d→s d=s' d):bP P hint n ops H s' o r H':=by
 unfold bP at h⊢
 split at h
 ·rename_i hg
  try simp only[hg]
  intro K KP hk
  rw[←fK h1]
  exact h K KP hk
 ·rename_i j want hg
  try simp only[hg]
  obtain⟨b,hb,h⟩:=h
  refine⟨b,?_,?_⟩
  ·rw[←hb]
   unfold eH
   have:=h2 j want hg
   unfold aY at this
   cases hd:(ops[j]?).bind (·.dst)with
   |none=>rfl
   |some d=>simp only[this d hd]
  ·split at h
   ·rw[if_pos (by assumption)]
    intro K KP hk
    rw[←fK h1]
    exact h K KP hk
   ·rw[if_neg (by assumption)];exact h
theorem ng(hc:nU hint ops)(m:Nat)(hm:m≤ops.size)(htl:∀i o,ops[i]?=some o→(i=m→∀j,j<m→ca ops 12 i j=true)∧(m<i→aO o (i-1)=true))(s:Nat→AV)(rs:Nat→AV)(HR:(Nat→Bool)→aa→Prop)
  (hHR:∀L L' H,(∀i,i<m→L i=L' i)→HR L H→HR L' H)
  (hstep:∀(L:Nat→Bool) (H:aa) i o,HR L H→i<m→ops[i]?=some o→L i=false→(∀j oj i',ops[j]?=some oj→L j=true→aO oj i'=true→L i'=true)→(∀j,aO o j=true→L j=true)→
   ∃H',bP P hint n ops H (a8 n ops s rs i) o (rs i) H'∧HR (fun j=>if j=i then true else L j) H')
  (hQ:∀L H,(∀i,i<m→L i=true)→HR L H→aM P hint n ops Q (ops.toList.drop m) (a8 n ops s rs m) H):
  ∀(fuel:Nat) (listed:Array Bool) (s':Nat→AV) (H:aa),listed.size=ops.size→(List.range ops.size).countP (fun j=> !listed.getD j true)≤fuel→
   (∀t j,aY ops j=some t→s' t=if listed.getD j false=true then(if t<n then rs j else .top)else s t)→(∀t,(∀j,aY ops j≠some t)→s' t=s t)→
   (∀j oj i,ops[j]?=some oj→listed.getD j false=true→aO oj i=true→listed.getD i false=true)→(∀i,m≤i→i<ops.size→listed.getD i false=false)→
   HR (fun c=>listed.getD c false) H→eN P hint n ops Q fuel listed s' H:=by
 have st_no:∀k t,(∀j,j<k→aY ops j≠some t)→a8 n ops s rs k t=s t:=by
  intro k t
  induction k with
  |zero=>intro _;rfl
  |succ k ih=>
   intro h
   simp only[a8]
   cases hd:aY ops k with
   |none=>exact ih fun j hj=>h j (by omega)
   |some d=>
    simp only[bl]
    have:t≠d:=fun e=>h k (by omega) (by rw[hd,e])
    rw[if_neg this]
    exact ih fun j hj=>h j (by omega)
 have st_dst:∀k t j,aY ops j=some t→j<k→a8 n ops s rs k t=if t<n then rs j else .top:=by
  intro k t j hj
  induction k with
  |zero=>intro h;omega
  |succ k ih=>
   intro h
   simp only[a8]
   by_cases e:j=k
   ·subst e
    rw[hj]
    simp only[bl,if_pos]
   ·have:=ih (by omega)
    cases hd:aY ops k with
    |none=>exact this
    |some d=>
     simp only[bl]
     have hne:t≠d:=fun e'=>e (hc.once j k t hj (by rw[hd,e']))
     rw[if_neg hne]
     exact this
 have bind_of:∀(listed:Array Bool) (o:Oper) (j:Nat),(o.after.all fun e=> !Region.binds .any e||listed.getD e.on false)=true→aO o j=true→listed.getD j false=true:=by
  intro listed o j h1 h2
  unfold aO at h2
  rw[List.any_eq_true]at h2
  obtain⟨e,he,h2⟩:=h2
  rw[Array.all_eq_true_iff_forall_mem]at h1
  have:=h1 e (Array.mem_toList_iff.1 he)
  simp only[Bool.and_eq_true,beq_iff_eq]at h2
  simpa[h2.1,h2.2]using this
 have fin:∀(listed:Array Bool) (s':Nat→AV),(∀i,i<m→listed.getD i true=true)→(∀i,m≤i→i<ops.size→listed.getD i false=false)→listed.size=ops.size→
   (∀t j,aY ops j=some t→s' t=if listed.getD j false=true then(if t<n then rs j else .top)else s t)→(∀t,(∀j,aY ops j≠some t)→s' t=s t)→s'=a8 n ops s rs m:=by
  intro listed s' hall hno hsz h1 h2
  funext t
  by_cases hd:∃j,aY ops j=some t
  ·obtain⟨j,hj⟩:=hd
   have hjl:=dM hj
   rcases Nat.lt_or_ge j m with hjm|hjm
   ·have:listed.getD j false=true:=by
     have:=hall j hjm
     simpa[Array.getD,show j<listed.size by omega]using this
    rw[h1 t j hj,if_pos this,st_dst _ t j hj hjm]
   ·rw[h1 t j hj,if_neg (by simp[hno j hjm hjl]),st_no m t fun j' hj' hd'=>by
     have:=hc.once j' j t hd' hj
     omega]
  ·have hd':∀j,aY ops j≠some t:=fun j hj=>hd ⟨j,hj⟩
   rw[h2 t hd',st_no _ t fun j _=>hd' j]
 intro fuel
 induction fuel with
 |zero=>
  intro listed s' H hsz hcnt h1 h2 hcl hno hq
  have hall:∀i,i<ops.size→listed.getD i true=true:=by
   intro i hi
   have h0:(List.range ops.size).countP (fun j=> !listed.getD j true)=0:=by omega
   rw[List.countP_eq_zero]at h0
   simpa using h0 i (List.mem_range.2 hi)
  have hs':=fin listed s' (fun i hi=>hall i (by omega)) hno hsz h1 h2
  subst hs'
  have hQ:=hQ _ H (fun i hi=>by have:=hall i (by omega);simpa[Array.getD,show i<listed.size by omega]using this) hq
  exact eQ hc (fun i o ho hi=>(htl i o ho).2 hi) hsz m (Nat.le_refl _) hm (fun i hi=>hall i (by omega)) (fun i hi hi2=>hno i hi hi2) hQ (by
   rcases Nat.lt_or_ge m ops.size with h|h
   ·have e1:=hall m h
    have e2:=hno m (Nat.le_refl _) h
    simp[Array.getD,show m<listed.size by omega]at e1 e2
    rw[e1]at e2
    cases e2
   ·omega)
 |succ fuel ih=>
  intro listed s' H hsz hcnt h1 h2 hcl hno hq
  by_cases hpre:∀i,i<m→listed.getD i true=true
  ·have hs':=fin listed s' hpre hno hsz h1 h2
   subst hs'
   have hQ:=hQ _ H (fun i hi=>by have:=hpre i hi;simpa[Array.getD,show i<listed.size by omega]using this) hq
   refine eQ hc (fun i o ho hi=>(htl i o ho).2 hi) hsz m (Nat.le_refl _) hm hpre hno hQ ?_
   have hsub:(List.range ops.size).countP (fun j=>decide (m≤j))≤(List.range ops.size).countP (fun j=> !listed.getD j true):=by
    refine List.countP_mono_left fun j hj hmj=>?_
    have hj:=List.mem_range.1 hj
    have:=hno j (by simpa using hmj) hj
    simp[Array.getD,show j<listed.size by omega]at this⊢
    exact this
   have hcm:∀N,m≤N→(List.range N).countP (fun j=>decide (m≤j))=N-m:=by
    intro N hN
    induction N with
    |zero=>simp
    |succ N ihN=>
     rw[List.range_succ,List.countP_append,List.countP_singleton]
     by_cases e:m≤N
     ·rw[ihN e];simp[e];omega
     ·have e':m=N+1:=by omega
      have:(List.range N).countP (fun j=>decide (m≤j))=0:=by
       rw[List.countP_eq_zero]
       intro j hj
       have:=List.mem_range.1 hj
       simp;omega
      rw[this];simp[e];omega
   rw[hcm _ hm]at hsub
   omega
  have hex:∃i,i<m∧listed.getD i true=false∧∀j,j<i→listed.getD j true=true:=by
   have:∃i,i<m∧listed.getD i true=false:=by
    rcases Classical.not_forall.1 hpre with⟨i,hi⟩
    rcases Classical.not_imp.1 hi with⟨h1,h2⟩
    exact⟨i,h1,by simpa using h2⟩
   obtain⟨i,hi⟩:=this
   induction i using Nat.strongRecOn with
   |_ i ihi=>
    by_cases hj:∃j,j<i∧listed.getD j true=false
    ·obtain⟨j,hj1,hj2⟩:=hj
     exact ihi j hj1 ⟨by omega,hj2⟩
    ·refine⟨i,hi.1,hi.2,fun j hji=>?_⟩
     cases hq:listed.getD j true with
     |true=>rfl
     |false=>exact absurd ⟨j,hji,hq⟩ hj
  obtain⟨i0,hi0,hu0,hb0⟩:=hex
  refine⟨fun hr=>?_,fun i hi=>?_⟩
  ·exfalso
   have hlt0:i0<ops.size:=by omega
   have hget:ops[i0]?=some ops[i0]:=by simp[hlt0]
   have:i0∈Region.ready .any ops listed:=by
    unfold Region.ready
    rw[List.mem_filter]
    refine⟨List.mem_range.2 hlt0,?_⟩
    simp only[hu0,hget,Bool.not_false,Bool.true_and,Option.map_some,Option.getD_some]
    rw[Array.all_eq_true_iff_forall_mem]
    intro e he
    cases hbe:Region.binds .any e
    ·simp
    have hlt:=hc.down i0 _ hget e he hbe
    have:=hb0 e.on hlt
    have:listed.getD e.on false=true:=by simpa[Array.getD,show e.on<listed.size by omega]using this
    simp[this]
   rw[hr]at this
   simp at this
  ·unfold Region.ready at hi
   rw[List.mem_filter]at hi
   obtain⟨hi,hrd⟩:=hi
   have hi:=List.mem_range.1 hi
   have hget:ops[i]?=some ops[i]:=by simp[hi]
   simp only[hget,Option.map_some,Option.getD_some,Bool.and_eq_true,Bool.not_eq_true']at hrd
   obtain⟨hun,haft⟩:=hrd
   simp only[hget]
   have hdst:aY ops i=(ops[i]).dst:=by simp[aY,hget]
   have hun':listed.getD i false=false:=by simpa[Array.getD,show i<listed.size by omega]using hun
   have him:i<m:=by
    rcases Nat.lt_or_ge i m with h|h
    ·exact h
    ·exfalso
     have hu0':listed.getD i0 false=false:=by simpa[Array.getD,show i0<listed.size by omega]using hu0
     rcases Nat.lt_or_ge m i with h2|h2
     ·have:=bind_of listed ops[i] (i-1) haft ((htl i _ hget).2 h2)
      rw[hno (i-1) (by omega) (by omega)]at this
      cases this
     ·have him:i=m:=by omega
      have:=jO hcl 12 i _ hget (fun j hj=>bind_of listed ops[i] j haft hj) i0 ((htl i _ hget).1 him i0 hi0)
      rw[this]at hu0'
      cases hu0'
   have agree:∀t j,aY ops j=some t→aO ops[i] j=true→a8 n ops s rs i t=s' t:=by
    intro t j hj hb
    have hl:=bind_of listed ops[i] j haft hb
    have hlt:j<i:=by
     unfold aO at hb
     rw[List.any_eq_true]at hb
     obtain⟨e,he,hb⟩:=hb
     simp only[Bool.and_eq_true,beq_iff_eq]at hb
     have:=hc.down i _ hget e (Array.mem_toList_iff.1 he) hb.1
     omega
    rw[st_dst i t j hj hlt,h1 t j hj,if_pos hl]
   have hrd:∀t∈jj ops[i],a8 n ops s rs i t=s' t:=by
    intro t ht
    by_cases hd:∃j,aY ops j=some t
    ·obtain⟨j,hj⟩:=hd
     rcases hc.reads i _ hget t ht j hj with hb|⟨oj,hoj,hb⟩
     ·exact agree t j hj hb
     ·have hnl:listed.getD j false=false:=by
       cases hq:listed.getD j false with
       |false=>rfl
       |true=>rw[hcl j oj i hoj hq hb]at hun';cases hun'
      have hlt:i<j:=by
       unfold aO at hb
       rw[List.any_eq_true]at hb
       obtain⟨e,he,hb⟩:=hb
       simp only[Bool.and_eq_true,beq_iff_eq]at hb
       have:=hc.down j _ hoj e (Array.mem_toList_iff.1 he) hb.1
       omega
      rw[h1 t j hj,if_neg (by simp[hnl]),st_no i t fun j' hj' hd'=>by
       have:=hc.once j' j t hd' hj
       omega]
    ·have hd':∀j,aY ops j≠some t:=fun j hj=>hd ⟨j,hj⟩
     rw[st_no i t fun j _=>hd' j,h2 t hd']
   have hgd:∀j w,(ops[i]).guard=some (j,w)→∀d,aY ops j=some d→a8 n ops s rs i d=s' d:=fun j w hg d hd=>agree d j hd (hc.guard i _ hget j w hg)
   have hset:∀j b,(listed.setIfInBounds i true).getD j b=if j=i then true else listed.getD j b:=by
    intro j b
    simp only[Array.getD_eq_getD_getElem?,Array.getElem?_setIfInBounds]
    by_cases e:i=j
    ·subst e;simp[hsz,hi]
    ·rw[if_neg e,if_neg (Ne.symm e)]
   have go:∀H2,HR (fun c=>(listed.setIfInBounds i true).getD c false) H2→eN P hint n ops Q fuel (listed.setIfInBounds i true) (bl n s' (ops[i]).dst (rs i)) H2:=by
    intro H2 hq2
    refine ih _ _ _ (by simpa using hsz) ?_ ?_ ?_ ?_ ?_ hq2
    ·have:=lN (p:=fun j=> !(listed.setIfInBounds i true).getD j true) (q:=fun j=> !listed.getD j true) (i:=i) (fun j hj=>by
      simp only[hset]at hj⊢
      by_cases e:j=i
      ·simp[e]at hj
      ·simpa[e]using hj) (by simp[hset]) (by simp[hun]) (List.range ops.size) (List.mem_range.2 hi)
     omega
    ·intro t j hj
     rw[hset]
     by_cases e:j=i
     ·subst e
      rw[hdst]at hj
      rw[if_pos rfl,if_pos rfl,hj]
      simp only[bl,if_pos]
     ·rw[if_neg e]
      cases hd:(ops[i]).dst with
      |none=>exact h1 t j hj
      |some d=>
       simp only[bl]
       have:t≠d:=fun e'=>e (hc.once j i t hj (by rw[hdst,hd,e']))
       rw[if_neg this]
       exact h1 t j hj
    ·intro t ht
     cases hd:(ops[i]).dst with
     |none=>exact h2 t ht
     |some d=>
      simp only[bl]
      have:t≠d:=fun e'=>ht i (by rw[hdst,hd,e'])
      rw[if_neg this]
      exact h2 t ht
    ·intro j oj i' hoj hlj hb
     rw[hset]at hlj⊢
     by_cases e':i'=i
     ·rw[if_pos e']
     ·rw[if_neg e']
      by_cases e:j=i
      ·subst e
       rw[hget]at hoj
       cases hoj
       exact bind_of listed _ i' haft hb
      ·rw[if_neg e]at hlj
       exact hcl j oj i' hoj hlj hb
    ·intro j hj hj2
     rw[hset,if_neg (by omega)]
     exact hno j hj hj2
   obtain⟨H2,hst,hr2⟩:=hstep (fun c=>listed.getD c false) H i _ hq him hget hun' hcl (fun j hj=>bind_of listed ops[i] j haft hj)
   refine bP.op (hst.congr hrd hgd) (go _ (hHR _ _ _ (fun j _=>?_) hr2))
   rw[hset]
theorem m9(hc:nU hint ops)(m:Nat)(hm:m≤ops.size)(htl:∀i o,ops[i]?=some o→(i=m→∀j,j<m→ca ops 12 i j=true)∧(m<i→aO o (i-1)=true))(s:Nat→AV)(rs:Nat→AV)(hp:Nat→aa)(ch:Nat→Bool)
  (hch:∀c c',c<c'→c'<m→ch c=true→ch c'=true→ca ops 12 c' c=true) (hfr:∀i,i<m→ch i=false→hp (i+1)=hp i)
  (hst:∀i o,i<m→ops[i]?=some o→ch i=true→bP P hint n ops (hp i) (a8 n ops s rs i) o (rs i) (hp (i+1)))
  (hsf:∀i o,i<m→ops[i]?=some o→ch i=false→∀j,j≤m→(∀c,c<j→ch c=true→ca ops 12 c i=false)→bP P hint n ops (hp j) (a8 n ops s rs i) o (rs i) (hp j))
  (hQ:aM P hint n ops Q (ops.toList.drop m) (a8 n ops s rs m) (hp m)):
  ∀(fuel:Nat) (listed:Array Bool) (s':Nat→AV) (H:aa),listed.size=ops.size→(List.range ops.size).countP (fun j=> !listed.getD j true)≤fuel→
   (∀t j,aY ops j=some t→s' t=if listed.getD j false=true then(if t<n then rs j else .top)else s t)→(∀t,(∀j,aY ops j≠some t)→s' t=s t)→
   (∀j oj i,ops[j]?=some oj→listed.getD j false=true→aO oj i=true→listed.getD i false=true)→(∀i,m≤i→i<ops.size→listed.getD i false=false)→
   (∃q,q≤m∧H=hp q∧∀c,c<m→ch c=true→(listed.getD c false=true↔c<q))→eN P hint n ops Q fuel listed s' H:=by
 have hsame:∀d q,q+d≤m→(∀c,c<m→ch c=true→(c<q↔c<q+d))→hp (q+d)=hp q:=by
  intro d
  induction d with
  |zero=>intros;rfl
  |succ d ihd=>
   intro q hq hcc
   have h1:ch (q+d)=false:=by
    cases h:ch (q+d)with
    |false=>rfl
    |true=>have:=(hcc (q+d) (by omega) h).2 (by omega);omega
   rw[←Nat.add_assoc,hfr (q+d) (by omega) h1]
   refine ihd q (by omega) fun c hcm hct=>⟨fun h=>by omega,fun h=>(hcc c hcm hct).2 (by omega)⟩
 have hsame2:∀q i,q≤m→i≤m→(∀c,c<m→ch c=true→(c<q↔c<i))→hp q=hp i:=by
  intro q i hq hi hcc
  rcases Nat.le_total q i with h|h
  ·obtain⟨d,rfl⟩:=Nat.exists_eq_add_of_le h
   exact(hsame d q hi hcc).symm
  ·obtain⟨d,rfl⟩:=Nat.exists_eq_add_of_le h
   exact hsame d i hq fun c hcm hct=>(hcc c hcm hct).symm
 intro fuel listed s' H hsz hcnt h1 h2 hcl hno hq
 refine ng hc m hm htl s rs (fun L H=>∃q,q≤m∧H=hp q∧∀c,c<m→ch c=true→(L c=true↔c<q)) ?_ ?_ ?_ fuel listed s' H hsz hcnt h1 h2 hcl hno hq
 ·rintro L L' H hL ⟨q,hqm,rfl,hql⟩
  exact⟨q,hqm,rfl,fun c hcm hct=>by rw[←hL c hcm];exact hql c hcm hct⟩
 ·rintro L _ i o ⟨q,hqm,rfl,hql⟩ him hget hun' hcl hbi
  have breach:∀c o',ops[c]?=some o'→(∀j,aO o' j=true→L j=true)→∀i',ca ops 12 c i'=true→L i'=true:=fun c o' hoc hb i' hr=>et hcl 12 c o' hoc hb i' hr
  cases hci:ch i with
  |false=>
   have hnr:∀c,c<q→ch c=true→ca ops 12 c i=false:=fun c hcq hct=>by
    cases hr:ca ops 12 c i with
    |false=>rfl
    |true=>
     exfalso
     have hgc:ops[c]?=some ops[c]:=by simp[show c<ops.size by omega]
     have hl:=(hql c (by omega) hct).2 hcq
     have:=breach c _ hgc (fun j hj=>hcl c _ j hgc hl hj) i hr
     rw[hun']at this
     cases this
   refine⟨_,hsf i _ him hget hci q hqm hnr,q,hqm,rfl,fun c hcm hct=>?_⟩
   show(if c=i then true else L c)=true↔c<q
   rw[if_neg (by intro e;rw[e,hci]at hct;cases hct)]
   exact hql c hcm hct
  |true=>
   have hbef:∀c,c<m→ch c=true→(L c=true↔c<i):=by
    intro c hcm hct
    refine⟨fun hl=>?_,fun hlt=>?_⟩
    ·rcases Nat.lt_trichotomy c i with h|h|h
     ·exact h
     ·subst h;rw[hun']at hl;cases hl
     ·exfalso
      have hgc:ops[c]?=some ops[c]:=by simp[show c<ops.size by omega]
      have:=breach c _ hgc (fun j hj=>hcl c _ j hgc hl hj) i (hch i c h hcm hci hct)
      rw[hun']at this
      cases this
    ·exact breach i _ hget hbi c (hch c i hlt him hct hci)
   have hqi:hp q=hp i:=hsame2 q i hqm (by omega) fun c hcm hct=>(hql c hcm hct).symm.trans (hbef c hcm hct)
   rw[hqi]
   refine⟨_,hst i _ him hget hci,i+1,by omega,rfl,fun c hcm hct=>?_⟩
   show(if c=i then true else L c)=true↔c<i+1
   by_cases e:c=i
   ·subst e;simp
   ·rw[if_neg e]
    refine(hbef c hcm hct).trans ⟨fun h=>by omega,fun h=>by omega⟩
 ·rintro L _ hall ⟨q,hqm,rfl,hql⟩
  rw[hsame2 q m hqm (Nat.le_refl _) fun c hcm hct=>⟨fun _=>hcm,fun _=>(hql c hcm hct).1 (hall c hcm)⟩]
  exact hQ
end
section
variable (P:Program) (hint:Nat→Bool) (n:Nat) (ops:Array Oper)
def dh(B:aa)(Q:aQ):List Bool→List Oper→(Nat→AV)→aa→Prop
 |[],l,s,H=>aM P hint n ops Q l s H
 |_::_,[],s,H=>aM P hint n ops Q [] s H
 |true::bs,o::rest,s,H=>cy P hint n ops (fun _ _ _=>False) o (fun s' H'=>Ext B H'∧dh B Q bs rest s' H') s H
 |false::bs,o::rest,s,H=>cy P hint n ops (fun _ _ _=>False) o (fun s' H'=>H'=H∧dh B Q bs rest s' H') s H
end
section
variable {P:Program} {hint:Nat→Bool} {n:Nat} {ops:Array Oper} {Q:aQ}
theorem gO{o:Oper}(hdt:jg hint o.op=true){s:Nat→AV}{H:aa}{K:(Nat→AV)→aa→Prop}(h:cy P hint n ops (fun _ _ _=>False) o K s H):∃r H',bP P hint n ops H s o r H'∧K (bl n s o.dst r) H':=by
 unfold cy at h
 split at h
 ·rename_i hg
  obtain⟨r,H',hr,hdet⟩:=ef hdt h
  exact⟨r,H',by unfold bP;simp only[hg];exact fun K KP hk=>hdet K KP hk,hr⟩
 ·rename_i j want hg
  split at h
  ·rename_i b hb
   split at h
   ·rename_i hbw
    obtain⟨r,H',hr,hdet⟩:=ef hdt h
    exact⟨r,H',by unfold bP;simp only[hg];exact⟨b,hb,by rw[if_pos hbw];exact fun K KP hk=>hdet K KP hk⟩,hr⟩
   ·rename_i hbw
    exact⟨.bq [],H,by unfold bP;simp only[hg];exact⟨b,hb,by simp[hbw]⟩,h⟩
  ·exact h.elim
theorem kO{B:aa}(hdt:∀(i:Nat) (o:Oper),ops[i]?=some o→jg hint o.op=true)(s0:Nat→AV):∀(bs:List Bool) (k:Nat) (rs0:Nat→AV) (hp0:Nat→aa),k+bs.length≤ops.size→dh P hint n ops B Q bs (ops.toList.drop k) (a8 n ops s0 rs0 k) (hp0 k)→
  ∃(rs:Nat→AV) (hp:Nat→aa),(∀i,i<k→rs i=rs0 i)∧(∀i,i≤k→hp i=hp0 i)∧
   (∀i o,k≤i→i<k+bs.length→ops[i]?=some o→(bs[i-k]?=some true→bP P hint n ops (hp i) (a8 n ops s0 rs i) o (rs i) (hp (i+1))∧Ext B (hp (i+1)))∧
    (bs[i-k]?=some false→bP P hint n ops (hp i) (a8 n ops s0 rs i) o (rs i) (hp i)∧hp (i+1)=hp i))∧
   aM P hint n ops Q (ops.toList.drop (k+bs.length)) (a8 n ops s0 rs (k+bs.length)) (hp (k+bs.length))
 |[],k,rs0,hp0,hk,h=>⟨rs0,hp0,fun _ _=>rfl,fun _ _=>rfl,fun i o h1 h2=>by simp at h2;omega,by
   have h:aM P hint n ops Q (ops.toList.drop k) (a8 n ops s0 rs0 k) (hp0 k):=by
    cases hd:ops.toList.drop k<;>(rw[hd]at h;exact h)
   exact h⟩
 |b::bs,k,rs0,hp0,hk,h=>by
  simp only[List.length_cons]at hk
  have hlt:k<ops.size:=by omega
  have hget:ops[k]?=some ops[k]:=by simp[hlt]
  have hd:ops.toList.drop k=ops[k]::ops.toList.drop (k+1):=by
   rw[List.drop_eq_getElem_cons (by simpa using hlt)];simp
  rw[hd]at h
  have hdst:aY ops k=(ops[k]).dst:=by simp[aY,hget]
  have step:∃r H',bP P hint n ops (hp0 k) (a8 n ops s0 rs0 k) ops[k] r H'∧(b=true→Ext B H')∧(b=false→H'=hp0 k)∧dh P hint n ops B Q bs (ops.toList.drop (k+1)) (bl n (a8 n ops s0 rs0 k) (ops[k]).dst r) H':=by
   cases b with
   |true=>
    obtain⟨r,H',h1,h2,h3⟩:=gO (hdt k _ hget) h
    exact⟨r,H',h1,fun _=>h2,fun e=>(by cases e),h3⟩
   |false=>
    obtain⟨r,H',h1,rfl,h3⟩:=gO (hdt k _ hget) h
    exact⟨r,_,h1,fun e=>(by cases e),fun _=>rfl,h3⟩
  obtain⟨r,H',h1,h2,h3,h4⟩:=step
  let rs1:Nat→AV:=fun i=>if i=k then r else rs0 i
  let hp1:Nat→aa:=fun i=>if i=k+1 then H' else hp0 i
  have e1:rs1 k=r:=if_pos rfl
  have e2:hp1 (k+1)=H':=if_pos rfl
  have hst:∀(rs:Nat→AV) i,i≤k→(∀j,j<i→rs j=rs0 j)→a8 n ops s0 rs i=a8 n ops s0 rs0 i:=by
   intro rs i
   induction i with
   |zero=>intros;rfl
   |succ i ih=>
    intro hi hr
    simp only[a8,ih (by omega) fun j hj=>hr j (by omega),hr i (by omega)]
  have h5:dh P hint n ops B Q bs (ops.toList.drop (k+1)) (a8 n ops s0 rs1 (k+1)) (hp1 (k+1)):=by
   rw[e2]
   simp only[a8,e1,hdst]
   rw[hst rs1 k (Nat.le_refl _) fun j hj=>if_neg (by omega)]
   exact h4
  obtain⟨rs,hp,g1,g2,g3,g4⟩:=kO hdt s0 bs (k+1) rs1 hp1 (by omega) h5
  have f1:∀i,i<k→rs i=rs0 i:=fun i hi=>by rw[g1 i (by omega)];exact if_neg (by omega)
  have f2:∀i,i≤k→hp i=hp0 i:=fun i hi=>by rw[g2 i (by omega)];exact if_neg (by omega)
  have f3:rs k=r:=by rw[g1 k (by omega)];exact e1
  have f4:hp (k+1)=H':=by rw[g2 (k+1) (by omega)];exact e2
  refine⟨rs,hp,f1,f2,fun i o hi hi2 ho=>?_,by rw[List.length_cons,show k+(bs.length+1)=k+1+bs.length from by omega];exact g4⟩
  rcases Nat.lt_or_ge k i with hki|hki
  ·have:=g3 i o hki (by simp only[List.length_cons]at hi2;omega) ho
   rw[show i-k=(i-(k+1))+1 from by omega,List.getElem?_cons_succ]
   exact this
  ·obtain rfl:i=k:=by omega
   rw[hget]at ho
   cases ho
   rw[Nat.sub_self,List.getElem?_cons_zero,f2 i (Nat.le_refl _),f3,f4,hst rs i (Nat.le_refl _) fun j hj=>f1 j hj]
   refine⟨fun e=>?_,fun e=>?_⟩
   ·exact⟨h1,h2 (Option.some.inj e)⟩
   ·have:=h3 (Option.some.inj e)
    subst this
    exact⟨h1,rfl⟩
theorem pB{o:Oper}{s:Nat→AV}{H:aa}{K:AV→aa→Prop}{KP:Value→aa→Prop}(h1:∀x,o.op≠ .panic x)(h2:∀c,o.op≠ .call c):aB P hint s H o K KP=fI P s H (match o.dst with|some d=>hint d|none=>false) o.op K:=by
 unfold aB
 split
 ·rename_i x hx;exact absurd hx (h1 x)
 ·rename_i c hx;exact absurd hx (h2 c)
 ·rfl
theorem mC{o:Oper}{s:Nat→AV}{B H H2:aa}{r:AV}{first:Bool}(hf:ju hint first o=true)(hE:first=true→Ext H H2)(h:∀K KP,K r H→aB P hint s H o K KP):∀K KP,K r H2→aB P hint s H2 o K KP:=by
 intro K KP hk
 have h0:=h (fun r' _=>r'=r) (fun _ _=>False) rfl
 unfold ju at hf
 rw[Bool.or_eq_true]at hf
 rcases hf with hf|hf
 ·have n1:∀x,o.op≠ .panic x:=fun x e=>by rw[e]at hf;cases hf
  have n2:∀c,o.op≠ .call c:=fun x e=>by rw[e]at hf;cases hf
  rw[pB n1 n2]at h0⊢
  rw[A4 (H:=H2) (H2:=H) hf]
  exact tv (fun r' _ e=>by rw[e];exact hk) h0
 ·rw[Bool.and_eq_true]at hf
  have n1:∀x,o.op≠ .panic x:=fun x e=>by rw[e]at hf;cases hf.2
  have n2:∀c,o.op≠ .call c:=fun x e=>by rw[e]at hf;cases hf.2
  rw[pB n1 n2]at h0⊢
  exact zD hf.2 (hE hf.1) h0 hk
theorem dK{o:Oper}{s:Nat→AV}{H H2:aa}{r:AV}{first:Bool}(hf:ju hint first o=true)(hE:first=true→Ext H H2)(h:bP P hint n ops H s o r H):bP P hint n ops H2 s o r H2:=by
 unfold bP at h⊢
 split at h
 ·rename_i hg
  try simp only[hg]
  exact mC (B:=H) hf hE h
 ·rename_i j want hg
  try simp only[]
  obtain⟨b,hb,h⟩:=h
  refine⟨b,hb,?_⟩
  split at h
  ·rw[if_pos (by assumption)];exact mC (B:=H) hf hE h
  ·rw[if_neg (by assumption)];simp[h.1]
end
section
variable {P:Program} {hint:Nat→Bool} {n:Nat} {ops:Array Oper} {Q:aQ}
end
def pA(hint:Nat→Bool)(ops:Array Oper)(bs:List Bool)(c0:Nat):Bool:=bs[c0]?==some true&&(List.range bs.length).all fun i=>match bs[i]?,ops[i]? with
 |some false,some o=>ju hint false o||(decide (i<c0)&&ca ops 12 c0 i)
 |some true,some _=>decide (c0≤i)&&(List.range i).all fun c=>bs[c]?==some false||ca ops 12 i c
 |_,_=>false
theorem Ext.nil(H:aa):Ext [] H=True:=eq_true fun id o h _=>by simp at h
section
variable {P:Program} {hint:Nat→Bool} {n:Nat} {ops:Array Oper} {Q:aQ}
theorem dE(bs:List Bool)(c0:Nat){H0 H:aa}{id:Nat}{s:Nat→AV}(hm:P.follows .mixedOrders=true)(hc:dA hint ops=true)(ht:dB ops bs.length=true)(hx:pA hint ops bs c0=true)
  (h:dh P hint n ops [] Q bs ops.toList s H):cq P hint n H0 (.region id ops true) Q s H:=by
 obtain⟨hms,htl⟩:=eU ht
 refine⟨hm,?_⟩
 obtain⟨rs,hp,_,g2,g3,g4⟩:=kO (cH hc).GH s bs 0 (fun _=> .top) (fun _=>H) (by omega) h
 have g20:hp 0=H:=g2 0 (Nat.le_refl _)
 simp only[Nat.zero_add,Nat.sub_zero,Nat.zero_le,true_implies]at g3 g4
 unfold pA at hx
 rw[Bool.and_eq_true,List.all_eq_true]at hx
 obtain⟨hx0,hx⟩:=hx
 have hx0:bs[c0]?=some true:=by simpa using hx0
 have hget:∀i,i<bs.length→∃o,ops[i]?=some o:=fun i hi=>⟨ops[i]'(by omega),by simp[show i<ops.size by omega]⟩
 have hbs:∀i (hi:i<bs.length),bs[i]?=some bs[i]:=fun i hi=>List.getElem?_eq_getElem hi
 let ch:Nat→Bool:=fun i=>bs[i]?.getD false
 have chT:∀i,i<bs.length→ch i=true→bs[i]?=some true:=fun i hi h=>by
  have h:bs[i]?.getD false=true:=h
  rw[hbs i hi]at h⊢
  simpa using h
 have chF:∀i,i<bs.length→ch i=false→bs[i]?=some false:=fun i hi h=>by
  have h:bs[i]?.getD false=false:=h
  rw[hbs i hi]at h⊢
  simpa using h
 have hc0:ch c0=true:=by show bs[c0]?.getD false=true;rw[hx0];rfl
 have hfirst:∀i,i<bs.length→i<c0→ch i=false:=by
  intro i hi hlt
  cases hci:ch i with
  |false=>rfl
  |true=>
   exfalso
   obtain⟨o,ho⟩:=hget i hi
   have:=hx i (List.mem_range.2 hi)
   rw[chT i hi hci,ho]at this
   simp only[Bool.and_eq_true,decide_eq_true_eq]at this
   omega
 have hbase:∀i,i≤bs.length→i≤c0→hp i=H:=by
  intro i
  induction i with
  |zero=>intros;exact g20
  |succ i ihi=>
   intro hi hcf
   obtain⟨o,ho⟩:=hget i (by omega)
   rw[((g3 i o (by omega) ho).2 (chF i (by omega) (hfirst i (by omega) (by omega)))).2]
   exact ihi (by omega) (by omega)
 refine m9 (cH hc) bs.length hms htl s rs hp ch ?_ ?_ ?_ ?_ g4 ops.size (Array.replicate ops.size false) s H (by simp) ?_ ?_ ?_ ?_ ?_ ⟨0,Nat.zero_le _,g20.symm,fun c hcm hct=>?_⟩
 ·intro c c' h1 h2 h3 h4
  have:=hx c' (List.mem_range.2 h2)
  obtain⟨o,ho⟩:=hget c' h2
  rw[chT c' h2 h4,ho]at this
  simp only[Bool.and_eq_true,List.all_eq_true]at this
  have:=this.2 c (List.mem_range.2 h1)
  rw[chT c (by omega) h3]at this
  simpa using this
 ·intro i hi hci
  obtain⟨o,ho⟩:=hget i hi
  exact((g3 i o hi ho).2 (chF i hi hci)).2
 ·intro i o hi ho hci
  exact((g3 i o hi ho).1 (chT i hi hci)).1
 ·intro i o hi ho hci j hj hnr
  have hfl:=hx i (List.mem_range.2 hi)
  rw[chF i hi hci,ho]at hfl
  simp only[Bool.or_eq_true,Bool.and_eq_true,decide_eq_true_eq]at hfl
  have hs:=((g3 i o hi ho).2 (chF i hi hci)).1
  rcases hfl with hfl|⟨hlt,hre⟩
  ·exact dK hfl (fun hf=>by cases hf) hs
  ·have hjc:j≤c0:=by
    rcases Nat.lt_or_ge c0 j with h1|h1
    ·have:=hnr c0 h1 hc0
     rw[hre]at this;cases this
    ·exact h1
   rw[hbase j hj hjc]
   rw[hbase i (by omega) (by omega)]at hs
   exact hs
 ·exact Nat.le_trans List.countP_le_length (by simp)
 ·intro t j hj
  have hjl:=dM hj
  rw[if_neg (by simp[Array.getD,hjl])]
 ·intro t _;rfl
 ·intro j oj i hoj hl
  have hjl:=(Array.getElem?_eq_some_iff.1 hoj).1
  simp[Array.getD,hjl]at hl
 ·intro i hi hi2
  simp[Array.getD,hi2]
 ·have:c<ops.size:=by omega
  simp[Array.getD,this]
end
section
variable (P:Program) (hint:Nat→Bool) (n:Nat) (ops:Array Oper) (Q:aQ) (rest:List Oper) (s:Nat→AV) (H B:aa) (bs:List Bool)
def AL(b:Bool)(d:Option Tmp)(H0:aa):AV→aa→Prop:=fun r H'=>(match b with|true=>Ext B H'|false=>H'=H0)∧dh P hint n ops B Q bs rest (bl n s d r) H'
theorem yy(d:Option Tmp)(H0:aa)(r:AV):AL P hint n ops Q rest s B bs true d H0 r H=(Ext B H∧dh P hint n ops B Q bs rest (bl n s d r) H):=rfl
theorem wv(d:Option Tmp)(H0:aa)(r:AV):AL P hint n ops Q rest s B bs false d H0 r H=(H=H0∧dh P hint n ops B Q bs rest (bl n s d r) H):=rfl
theorem wb(l:List Oper):dh P hint n ops B Q [] l s H=aM P hint n ops Q l s H:=by cases l<;>rfl
theorem tX(b:Bool)(d:Option Tmp)(op:Op)(ty:TypeId)(p:String)(af:Array Edge):dh P hint n ops B Q (b::bs) (⟨d,op,ty,p,af,none⟩::rest) s H=aB P hint s H ⟨d,op,ty,p,af,none⟩ (AL P hint n ops Q rest s B bs b d H) zB:=by
 cases b<;>simp only[dh,cy]<;>rfl
theorem xX(l:List Oper):dh P hint n ops B Q bs l.toArray.toList s H=dh P hint n ops B Q bs l s H:=rfl
end
@[congr] theorem G3 {P:Program} {hint:Nat→Bool} {n:Nat} {ops:Array Oper} {Q:aQ} {bs:List Bool} {l:List Oper} {s:Nat→AV} {B H H':aa} (h:nf H=H'):dh P hint n ops B Q bs l s H=dh P hint n ops B Q bs l s H':=by rw[←h];rfl
@[congr] theorem GF {P:Program} {hint:Nat→Bool} {n:Nat} {ops:Array Oper} {Q:aQ} {rest:List Oper} {s:Nat→AV} {bs:List Bool} {b:Bool} {d:Option Tmp} {B H0 H H':aa} {r r':AV} (g:nf r=r') (h:nf H=H'):AL P hint n ops Q rest s B bs b d H0 r H=AL P hint n ops Q rest s B bs b d H0 r' H':=by rw[←g,←h];rfl
attribute [go_sem] Ext.nil yy wv wb tX xX
theorem rM.mono{P:Program}{f:FuncId}{vals:Array Value}{w:World}{R R':Ending→World→Prop}(h:rM P f vals w R)(hR:∀e w',R e w'→R' e w'):rM P f vals w R':=by
 rcases h with⟨h1,h2⟩|⟨v,w',h1,h2⟩
 ·exact .inl ⟨h1,h2.mono hR⟩
 ·exact .inr ⟨v,w',h1,hR _ _ h2⟩
def rn(r:AV):Nat→AV:=fun t=>if t=0 then r else .top
theorem ah.Cr{P:Program}{f:FuncId}{args:List AV}{H H1 H2:aa}{r:AV}{s':Nat→AV}(h:ah P f args H (.ok r) H1)(hW:an H (rn r) H1 s' H2):ah P f args H (.ok (s' 0)) H2:=by
 intro φ N w vals hR hA
 refine(h φ N w vals hR hA).mono ?_
 rintro e w' ⟨φ1,N1,hR1,hS1,hE⟩
 cases e with
 |returned v=>
  have hI:Inv H φ N w 1 ⟨true,[]⟩ (rn r) H1 φ1 N1 {tmps:=#[v],defers:=[]} w':=by
   refine⟨hR1,fun t=>?_,hS1,rfl,gW.refl⟩
   unfold rn
   by_cases ht:t=0
   ·subst ht;exact hE
   ·rw[if_neg ht];exact .top _
  obtain⟨φ2,N2,hI2⟩:=hW.ok hR hI
  exact⟨φ2,N2,hI2.rel,hI2.since,hI2.tmps 0⟩
 |panicked _=>exact hE.elim
 |outgrown=>exact hE.elim
theorem ah.drop{P:Program}{f:FuncId}{args:List AV}{H T:aa}{r:AV}(h:ah P f args H (.ok r) (H++T)):ah P f args H (.ok (qd (H++T) H.length r)) H:=h.Cr (an.drop H T _)
theorem xk(H:aa)(e:TypeId)(k v n:Nat)(es:List (List D))(h:es.length=n):qd (H++[.arr e k v es]) H.length (.sl H.length v 0 n)= .d (.list false es):=by
 rw[AN,xd,if_neg (Nat.lt_irrefl _),jJ]
 simp only[if_true,List.drop_zero]
 rw[cN _ _ h]
theorem ah.list{P:Program}{f:FuncId}{args:List AV}{H:aa}{e:TypeId}{k v n:Nat}{es:List (List D)}(h:ah P f args H (.ok (.sl H.length v 0 n)) (H++[.arr e k v es]))(hn:es.length=n):ah P f args H (.ok (.d (.list false es))) H:=by
 have:=h.drop
 rwa[xk _ _ _ _ _ _ hn]at this
theorem ao.GQ{rs:List Tmp}{H H' T:aa}{s:Nat→AV}{r:AV}(e:H'=H++T)(h:r=iX rs fun t=>qd H' H.length (s t)):ao rs H (.ok r) H .ret s H':=by subst e;exact ao.ret h
theorem ah.imp{P:Program}{f:FuncId}{args:List AV}{H H':aa}{r r':AV}(h:ah P f args H (.ok r) H')(hr:∀φ N w v,RA H' φ N w r v→RA H' φ N w r' v):ah P f args H (.ok r') H':=by
 have:=h.Cr (s':=rn r') (.imp _ _ _ fun φ N w u v hv=>?_)
 ·exact this
 ·unfold rn at hv⊢
  by_cases hu:u=0
  ·rw[if_pos hu]at hv⊢;exact hr _ _ _ _ hv
  ·rw[if_neg hu]at hv⊢;exact hv
theorem RA.Dg{H:aa}{φ:aI}{N:Addr→Prop}{w:World}{cs cs':List AV}{v:Value}(hs:j0 cs cs')(h:RA H φ N w (.bq cs) v):RA H φ N w (.bq cs') v:=by
 cases h with
 |bq cs vs hl hh=>exact .bq _ vs (hs.len.symm.trans hl) fun i h1 h2=>hs.ra i (by rw[hs.len];exact h1) h1 (hh i (by rw[hs.len];exact h1) h2)
theorem ah.Eo{P:Program}{f:FuncId}{args:List AV}{H H':aa}{r r':AV}(h:ah P f args H (.ok r) H')(hs:Sub r r'):ah P f args H (.ok r') H':=h.imp fun _ _ _ _ hv=>hs.ra hv
theorem ah.jW{P:Program}{f:FuncId}{args:List AV}{H H':aa}{cs cs':List AV}(h:ah P f args H (.ok (.bq cs)) H')(hs:j0 cs cs'):ah P f args H (.ok (.bq cs')) H':=h.imp fun _ _ _ _ hv=>hv.Dg hs
theorem RA.empty{H:aa}{φ:aI}{N:Addr→Prop}{w:World}{v:Value}(h:RA H φ N w (.d (.list false [])) v):RA H φ N w (.d (.v (.slice none 0 0))) v∨RA H φ N w (.d (.list true [])) v:=by
 cases h with
 |d h=>
  cases h with
  |nil A c hA=>
   cases A with
   |none=>rw[hA rfl];exact .inl (.d (.v _ rfl))
   |some ad=>exact .inr (.d (RD.list true [] ad c 0 (fun _ _=>undef) (Nat.zero_le _) (fun e he=>by simp at he) (fun i j hi=>by simp at hi) (fun i hi=>by simp at hi)))
  |list _ _ ad cap k c hc hk hh hd=>exact .inr (.d (RD.list true [] ad cap k c hc hk hh hd))
theorem ah.nN{P:Program}{f:FuncId}{H H':aa}{res:lK}(pre post:List AV)(h1:ah P f (pre++ .d (.v (.slice none 0 0))::post) H res H')(h2:ah P f (pre++ .d (.list true [])::post) H res H'):ah P f (pre++ .d (.list false [])::post) H res H':=by
 intro φ N w vals hR hA
 have hlt:pre.length<vals.size:=by rw[←hA.1];simp
 have h0:=hA.2 pre.length (by simp) hlt
 simp only[List.getElem_append_right (Nat.le_refl _),Nat.sub_self,List.getElem_cons_zero]at h0
 have go:∀x,RA H φ N w x (vals[pre.length])→oG H φ N w (pre++x::post) vals:=fun x hx=>by
  refine⟨by rw[←hA.1];simp,fun i g1 g2=>?_⟩
  have h3:=hA.2 i (by simpa using g1) g2
  by_cases hi:i=pre.length
  ·subst hi
   simp only[List.getElem_append_right (Nat.le_refl _),Nat.sub_self,List.getElem_cons_zero]
   exact hx
  ·rcases Nat.lt_or_ge i pre.length with hlt2|hge
   ·rw[List.getElem_append_left hlt2]at h3⊢;exact h3
   ·rw[List.getElem_append_right hge]at h3⊢
    obtain⟨j,hj⟩:∃j,i-pre.length=j+1:=⟨i-pre.length-1,by omega⟩
    simp only[hj,List.getElem_cons_succ]at h3⊢
    exact h3
 rcases RA.empty h0 with h|h
 ·exact h1 φ N w vals hR (go _ h)
 ·exact h2 φ N w vals hR (go _ h)
theorem zk{P:Program}(d:Nat)(t e:TypeId)(h:P.underlying t=some (.slice e))(w:World):(Op.equalIn (d+1) t (.slice none 0 0) (.slice none 0 0)).run P w= .ok true w:=by simp[Op.equalIn,run_underlying h]
theorem vD{P:Program}{t e:TypeId}(hu:P.underlying t=some (.slice e)):bH P .eql t (.slice none 0 0) (.slice none 0 0) (.bool true):=fun x y w=>by
 have hg:(eqGuard .eql t x y (.slice none 0 0) (.slice none 0 0)).run P w= .ok () w:=by simp[eqGuard]
 have he:(Op.equal t (.slice none 0 0) (.slice none 0 0)).run P w= .ok true w:=zk 9999 t e hu w
 rw[Sem.run_bind,hg]
 simp only[Result.andThen_ok,Go.binOp]
 simp[he]
theorem pX{P:Program}{t e:TypeId}(hu:P.underlying t=some (.slice e))(K:Value→Prop):ck P .eql t (.slice none 0 0) (.slice none 0 0) K=K (.bool true):=by
 have h:=vD hu
 have:ck P .eql t (.slice none 0 0) (.slice none 0 0) K=∃r,bH P .eql t (.slice none 0 0) (.slice none 0 0) r∧K r:=by unfold ck;rfl
 rw[this]
 exact propext ⟨fun⟨r',h',k⟩=>by rw[h.inj h'];exact k,fun k=>⟨_,h,k⟩⟩
def zC(I:(Nat→AV)→aa→Prop):aQ:=fun e s H=>match e with| .normal=>I s H|_=>False
theorem tO(I:(Nat→AV)→aa→Prop)(s:Nat→AV)(H:aa):zC I .normal s H=I s H:=rfl
attribute [go_sem] tO
section
variable {P:Program} {hint:Nat→Bool} {n:Nat} {H0:aa} {Q:aQ} {s:Nat→AV} {H:aa}
theorem fJ{x y:Code}(I:(Nat→AV)→aa→Prop)(hh:c4 hint y=false)(h1:cq P hint n H0 x (zC I) s H)(h2:∀s H,I s H→cq P hint n H0 y Q s H):cq P hint n H0 x (iV P hint n H0 y Q) s H:=by
 refine gF x (fun e s H h=>?_) s H h1
 cases e with
 |normal=>rw[cD,hh,fA];exact h2 s H h
 |_=>exact h.elim
theorem dX{x x' y:Code}{b:Bool}(I:(Nat→AV)→aa→Prop)(hh:c4 hint y=false)(h1:kL (some b) (cq P hint n H0 x (zC I) s H) (cq P hint n H0 x' (zC I) s H))(h2:∀s H,I s H→cq P hint n H0 y Q s H):
  kL (some b) (cq P hint n H0 x (iV P hint n H0 y Q) s H) (cq P hint n H0 x' (iV P hint n H0 y Q) s H):=by
 cases b
 ·exact fJ I hh h1 h2
 ·exact fJ I hh h1 h2
theorem fq{x y:Code}{b:Nat}(I:(Nat→AV)→aa→Prop)(hh:c4 hint y=false)(h1:cq P hint n H0 x (cI b (zC I)) s H)(h2:∀s H,I s H→cq P hint n H0 y Q s H):cq P hint n H0 x (cI b (iV P hint n H0 y Q)) s H:=by
 refine gF x (fun e s H h=>?_) s H h1
 cases e with
 |normal=>show iV P hint n H0 y Q .normal s H;rw[cD,hh,fA];exact h2 s H h
 |exit i=>
  rw[fF]at h⊢
  by_cases hi:i=b
  ·rw[if_pos hi]at h⊢;rw[cD,hh,fA];exact h2 s H h
  ·rw[if_neg hi]at h;exact h.elim
 |_=>exact h.elim
end
section
variable (P:Program) (hint:Nat→Bool) (n:Nat) (y:Code) (m:Nat) (In:aa→Prop) (Ix:AX→aa→Prop) (H Hk:aa) (s:Nat→AV)
def uE:aQ:=fun e s2 H3=>∃s3 H4,an Hk s2 H3 s3 H4∧H4.length=m∧(match e with| .normal=>In H4| .panic _=>False|e=>Ix e H4)
def Gv:aQ:=fun e s1 H2=>match e with| .normal=>cq P hint n Hk y (uE m In Ix Hk) s1 H2|_=>False
theorem vN:Gv P hint n y m In Ix Hk .normal s H=cq P hint n Hk y (uE m In Ix Hk) s H:=rfl
theorem ti(t:Tmp)(v:AV):gK n s [t] [v]=bl n s (some t) v:=rfl
end
attribute [go_sem] vN ti
@[congr] theorem Hf {P:Program} {hint:Nat→Bool} {n:Nat} {y:Code} {m:Nat} {In:aa→Prop} {Ix:AX→aa→Prop} {Hk:aa} {e:AX} {s:Nat→AV} {H H':aa} (h:nf H=H'):Gv P hint n y m In Ix Hk e s H=Gv P hint n y m In Ix Hk e s H':=by rw[←h];rfl
@[congr] theorem HC {m:Nat} {In:aa→Prop} {Ix:AX→aa→Prop} {Hk:aa} {e:AX} {s:Nat→AV} {H H':aa} (h:nf H=H'):uE m In Ix Hk e s H=uE m In Ix Hk e s H':=by rw[←h];rfl
theorem uE.cut{m:Nat}{In:aa→Prop}{Ix:AX→aa→Prop}{H ob0:aa}{s:Nat→AV}(dc T:aa){H3:aa}(e:H3=H++(dc++T))(hk:dc.length=ob0.length)(hm:m=(H++ob0).length)(hb:dc.all (aA.below m)=true)
  (hi:In (H++dc)):uE m In Ix (H++ob0) .normal s H3:=by
 subst e
 have hl:(H++dc).length=m:=by rw[hm];simp[hk]
 have hw:=an.xi (H0:=H++ob0) s (H++(dc++T)) m (by omega) (by rw[←hl];simp) fun i o h1 ho=>by
  rw[←List.append_assoc,List.getElem?_append_left (by omega)]at ho
  rcases Nat.lt_or_ge i H.length with hi|hi
  ·rw[List.getElem?_append_left hi]at ho
   exact .inl (by rw[List.getElem?_append_left hi];exact ho)
  ·rw[List.getElem?_append_right hi]at ho
   rw[List.all_eq_true]at hb
   exact .inr (hb o (List.mem_of_getElem? ho))
 rw[show(H++(dc++T)).take m=H++dc from by rw[←List.append_assoc,←hl,List.take_left]]at hw
 exact⟨_,_,hw,hl,hi⟩
theorem uE.same{m:Nat}{In:aa→Prop}{Ix:AX→aa→Prop}{Hk H3:aa}{s:Nat→AV}(hl:H3.length=m)(hi:In H3):uE m In Ix Hk .normal s H3:=⟨s,H3,.refl _ _,hl,hi⟩
theorem jz{P:Program}{hint:Nat→Bool}{n:Nat}{H0:aa}{g:Operand}{ps:Array Tmp}{x y:Code}{Q:aQ}{s s0:Nat→AV}{H H1:aa}(hint':Nat→Bool){gf:FuncId}{caps:List AV}{xs:List (List AV)}{C:aa→Prop}(I:Nat→aa→Prop)(Ix:AX→aa→Prop)
  (hm:hint 2000000=true) (hm':hint' 2000000=false) (hW:an H0 s H s0 H1) (hg:ai s0 g= .fn gf caps) (hs:oe P gf caps C xs) (hx:∀v∈xs,v.length=ps.size∧∀u∈v,fc H1.length u=true) (h0:I 0 H1) (hC:∀k Hk,I k Hk→C Hk∧Hk.length=H1.length)
  (round:∀k (hk:k<xs.length) Hk,I k Hk→cq P hint' n Hk x (Gv P hint' n y H1.length (I (k+1)) Ix Hk) (gK n s0 ps.toList (xs[k])) Hk)
  (done:∀Hn,I xs.length Hn→Q .normal s0 Hn) (stop:∀e Hx,Ix e Hx→Q e s0 Hx):cq P hint n H0 (.rangeFunc g ps x y) Q s H:=by
 refine⟨hm,hint',gf,caps,xs,C,I,Ix,s0,H1,hm',hW,hg,hs,fun v hv=>⟨(hx v hv).1,fun u hu=>CY ((hx v hv).2 u hu)⟩,h0,hC,fun k hk Hk hI=>?_,done,stop⟩
 exact round k hk Hk hI
theorem zv.mono{m m':Nat}{o:aA}(h:zv m o)(hm:m≤m'):zv m' o:=
 ⟨fun e k ag n cs he c hc=>(h.1 e k ag n cs he c hc).mono hm,fun kk es he e hx=>(h.2.1 kk es he e hx).mono hm,fun a b c he=>Nat.lt_of_lt_of_le (h.2.2.1 a b c he) hm,fun r s he t=>(h.2.2.2 r s he t).mono hm⟩
theorem Bm{m:Nat}{Hs Hk:aa}{r r':Loop}{s:Nat→AV}(hb:jG m Hk)(hl:Hk.length=m)(hs:∀t,iG m (s t)):∀(i:Nat) (o:aA),(Hk++[aA.lp r' s])[i]?=some o→(Hs++[aA.lp r s])[i]?=some o∨zv (m+1) o:=by
 intro i o h
 right
 rcases oh h with⟨h1,_⟩|⟨_,rfl⟩
 ·exact(hb i o h1).mono (by omega)
 ·exact⟨fun _ _ _ _ _ he=>(by cases he),fun _ _ he=>(by cases he),fun _ _ _ he=>(by cases he),fun _ _ he t=>(by cases he;exact(hs t).mono (by omega))⟩
theorem an.iter{m:Nat}{Hs Hk T H:aa}{r r':Loop}{s0 s:Nat→AV}(e:H=Hk++([.lp r' s0]++T))(hb:jG m Hk)(hl:Hk.length=m)(hl':Hs.length=m)(hs:∀t,iG m (s0 t)):an (Hs++[.lp r s0]) s H (fun t=>qd H (m+1) (s t)) (Hk++[.lp r' s0]):=by
 subst e
 have hlen:(Hk++[aA.lp r' s0]).length=m+1:=by simp[hl]
 have hw:=an.AH (H0:=Hs++[.lp r s0]) s (Hk++([.lp r' s0]++T)) (m+1) (by simp[hl']) (by simp;omega) fun i o h1 ho=>by
  rw[←List.append_assoc,List.getElem?_append_left (by omega)]at ho
  exact Bm hb hl hs i o ho
 rwa[show(Hk++([aA.lp r' s0]++T)).take (m+1)=Hk++[.lp r' s0]from by rw[←List.append_assoc,←hlen,List.take_left]]at hw
theorem BY(H:aa)(m id:Nat):qd H m (.gl id)=if id<m then .gl id else .top:=rfl
attribute [go_sem] BY
end Go.Proofs.YtggohfhfocgilaaGreatAw
namespace Go.Proofs.YtggohfhfocgilaaGreat
open Go.Proofs.YtggohfhfocgilaaGreatAw Go.RowKit
namespace CI
abbrev iB(n:Bool)(l:List Int):aA:= .box 23 1 0 1 [.d (.list n (ints l))]
def kf(l:List Int):List (List AV):=l.map fun x=>[iA x]
theorem tC(n:Bool)(l:List Int)(H:aa):ah Tryz.prog 117 [.d (.list n (ints l))] H (.ok (.fn 151 [.ptr H.length 0 0 0])) (H++[iB n l]):=by
 refine ah.aj (hint:=(fun _=>false)) Tryz.func117 (by kernel_rfl) rfl [2] (by kernel_rfl) (by decide) (by simp[Tryz.ntmps117]) ?_
 rw[Tryz.ntmps117]
 simp -implicitDefEqProofs only[↓reduceIte,go_sem,Nat.reduceLT,Nat.reduceEqDiff]
 exact⟨_,an.refl _ _,by simp -implicitDefEqProofs only[↓reduceIte,go_sem,Nat.reduceLT]⟩
theorem yV(n:Bool)(l:List Int)(id:Nat)(hl:l.length≤1000000000000):oe Tryz.prog 151 [.ptr id 0 0 0] (fun H=>H[id]?=some (iB n l)) (kf l):=by
 intro r s0 J Jx m Hs h0 hsb hJ hY
 refine pt.aj (hint:=fun t=>t==3000000) Tryz.func151 (by kernel_rfl) rfl [] (by kernel_rfl) (by decide) (by simp[Tryz.ntmps151]) ?_
 rw[Tryz.ntmps151]
 obtain⟨hC0,_,hl0⟩:=hJ 0 Hs h0
 have hx0:(Hs++[aA.lp r s0])[id]?=some (iB n l):=by rw[List.getElem?_append_left (al hC0)];exact hC0
 simp -implicitDefEqProofs only[↓reduceIte,go_sem,ae,Nat.reduceLT,hx0]
 refine bf (fun k s H'=>∃Hk,J k Hk∧H'=Hk++[.lp r s0]∧s 0= .gl m∧s 5= .d (.list n (ints l))∧s 6=iA l.length∧s 7=iA k) l.length (by omega) (an.refl _ _) ?_ ?_ ?_
 ·refine⟨Hs,h0,rfl,?_⟩
  simp -implicitDefEqProofs only[↓reduceIte,go_sem,Nat.reduceLT,Nat.reduceEqDiff,reduceCtorEq,az]
 ·rintro k s H' hk hw ⟨Hk,hJk,rfl,t0,t5,t6,t7⟩
  have hx:=b5 l k hk
  obtain⟨hCk,hbk,hlk⟩:=hJ _ _ hJk
  have hi:k<(kf l).length:=by simpa[kf]using hk
  have hxi:(kf l)[k]=[iA l[k]]:=by simp[kf]
  have hYk:=fun T=>hY _ hi Hk T hJk
  rw[hxi]at hYk
  generalize hv:l[k]=v at*
  simp -implicitDefEqProofs only[↓reduceIte,go_sem,Nat.reduceAdd,Nat.reduceLT,Nat.reduceEqDiff,Nat.reduceBEq,reduceCtorEq,t0,t5,t6,t7,hk,hx]
  refine tq.ok (hYk []) ?_
  intro b H' hb
  cases b with
  |true=>
   rw[if_pos rfl]at hb
   obtain⟨Hk',hJk',rfl⟩:=hb
   obtain⟨hCk',hbk',hlk'⟩:=hJ _ _ hJk'
   simp -implicitDefEqProofs only[↓reduceIte,go_sem,Nat.reduceAdd,Nat.reduceLT,Nat.reduceEqDiff,Nat.reduceBEq,t7]
   refine⟨_,_,an.iter rfl hbk' hlk' hl0 hsb,Hk',hJk',rfl,?_⟩
   simp -implicitDefEqProofs only[↓reduceIte,go_sem,Nat.reduceLT,Nat.reduceEqDiff,reduceCtorEq,t0,t5,t6,hw,Nat.lt_add_one]
  |false=>
   rw[if_neg (by simp)]at hb
   obtain⟨Hk',c,hjx,hbk',hlk',rfl⟩:=hb
   simp -implicitDefEqProofs only[↓reduceIte,go_sem,Nat.reduceLT]
   exact⟨_,_,an.iter rfl hbk' hlk' hl0 hsb,rfl,.inr ⟨Hk',c,hjx,hlk',rfl⟩⟩
 ·rintro s H' ⟨Hk,hJk,rfl,t0,t5,t6,t7⟩
  obtain⟨hCk,hbk,hlk⟩:=hJ _ _ hJk
  simp -implicitDefEqProofs only[↓reduceIte,go_sem,Nat.reduceLT,t6,t7]
  exact⟨_,_,an.iter rfl hbk hlk hl0 hsb,rfl,.inl ⟨Hk,by simpa[kf]using hJk,rfl⟩⟩
theorem fB(gf:FuncId)(caps:List AV)(C:aa→Prop)(l:List Int)(H:aa)(hs:oe Tryz.prog gf caps C (kf l))(hC:∀T,C (H++T))(hl:l.length≤1000000000):
  ah Tryz.prog 180 [.d (.v (.slice none 0 0)),.fn gf caps] H (.ok (.sl (H.length+1) l.length 0 l.length)) (H++[.box 23 1 0 1 [.sl (H.length+1) l.length 0 l.length],.arr 3 1 l.length (ints l)]):=by
 refine ah.aj (hint:=(fun t=>t==2000000)) Tryz.func180 (by kernel_rfl) rfl [4] (by kernel_rfl) (by decide) (by simp[Tryz.ntmps180]) ?_
 rw[Tryz.ntmps180]
 simp -implicitDefEqProofs only[↓reduceIte,go_sem,Nat.reduceAdd,Nat.reduceLT,Nat.reduceEqDiff,Nat.reduceBEq]
 refine jz (fun _=>false) (fun k Hk=>Hk=H++[.box 23 1 0 1 [.sl (H.length+1) k 0 k],.arr 3 1 k (ints (l.take k))]) (fun _ _=>False) rfl rfl (an.eg _ _ H.length 23 1 0 1 [.d (.v (.slice none 0 0))] 0 _ 3 1 (by decide) (by simp) rfl rfl) (by simp -implicitDefEqProofs only[↓reduceIte,go_sem,Nat.reduceLT]) hs ?_ ?_ ?_ ?_ ?_ (fun _ _ h=>h.elim)
 ·intro v hv
  obtain⟨u,_,rfl⟩:=List.mem_map.1 hv
  exact⟨rfl,fun w hw=>by rw[List.mem_singleton.1 hw];rfl⟩
 ·simp -implicitDefEqProofs only[go_sem,List.take_zero,mX]
 ·rintro k _ rfl
  exact⟨hC _,by simp -implicitDefEqProofs only[go_sem,Nat.reduceAdd]⟩
 ·rintro k hk _ rfl
  have hk:k<l.length:=by simpa[kf]using hk
  have e1:ints (l.take (k+1))=ints (l.take k)++[[.v (.int .i64 l[k])]]:=by rw[List.take_succ_eq_append_getElem hk,←gk]
  have hlen:(ints (l.take k)).length=k:=by rw[az,List.length_take];omega
  have hxi:(kf l)[k]'(by simpa[kf]using hk)=[iA l[k]]:=by simp[kf]
  rw[e1,hxi]
  generalize ints (l.take k)=B at*
  generalize l[k]=v at*
  simp -implicitDefEqProofs only[↓reduceIte,go_sem,ae,aw,Nat.reduceAdd,Nat.reduceLT,Nat.reduceLeDiff,Nat.reduceEqDiff,hlen]
  refine⟨by omega,by omega,?_⟩
  refine uE.cut [.box 23 1 0 1 [.sl (H.length+1) (k+1) 0 (k+1)],.arr 3 1 (k+1) (B++[[.v (.int .i64 v)]])] _ rfl rfl (by simp -implicitDefEqProofs only[go_sem,Nat.reduceAdd]) (by simp -implicitDefEqProofs only[go_sem,Nat.reduceAdd,Nat.reduceLT]) ?_
  rfl
 ·rintro _ rfl
  rw[show(kf l).length=l.length by simp[kf],List.take_length]
  simp -implicitDefEqProofs only[↓reduceIte,go_sem,ae,Nat.reduceAdd,Nat.reduceLT,Nat.reduceEqDiff,Nat.reduceBEq]
  exact⟨_,an.refl _ _,by simp -implicitDefEqProofs only[↓reduceIte,go_sem,Nat.reduceLT]⟩
theorem kQ(gf:FuncId)(caps:List AV)(C:aa→Prop)(l:List Int)(H:aa)(hs:oe Tryz.prog gf caps C (kf l))(hC:∀T,C (H++T))(hl:l.length≤1000000000):
  ah Tryz.prog 149 [.fn gf caps] H (.ok (.sl (H.length+1) l.length 0 l.length)) (H++[.box 23 1 0 1 [.sl (H.length+1) l.length 0 l.length],.arr 3 1 l.length (ints l)]):=by
 refine ah.aj (hint:=(fun _=>false)) Tryz.func149 (by kernel_rfl) rfl [2] (by kernel_rfl) (by decide) (by simp[Tryz.ntmps149]) ?_
 rw[Tryz.ntmps149]
 simp -implicitDefEqProofs only[↓reduceIte,go_sem,Nat.reduceLT,reduceCtorEq]
 refine ab.ok (fB gf caps C l _ hs hC hl) ?_
 simp -implicitDefEqProofs only[↓reduceIte,go_sem,Nat.reduceLT]
 exact⟨_,an.refl _ _,by simp -implicitDefEqProofs only[↓reduceIte,go_sem,Nat.reduceLT]⟩
theorem se(gf:FuncId)(caps:List AV)(C:aa→Prop)(l:List Int)(H:aa)(hs:oe Tryz.prog gf caps C (kf l))(hC:∀T,C (H++T))(hl:l.length≤1000000000):
  ah Tryz.prog 116 [.fn gf caps] H (.ok (.sl (H.length+1) l.length 0 l.length)) (H++[.box 23 1 0 1 [.sl (H.length+1) l.length 0 l.length],.arr 3 1 l.length (ints (dI l))]):=by
 refine ah.aj (hint:=(fun _=>false)) Tryz.func116 (by kernel_rfl) rfl [2] (by kernel_rfl) (by decide) (by simp[Tryz.ntmps116]) ?_
 rw[Tryz.ntmps116]
 simp -implicitDefEqProofs only[↓reduceIte,go_sem,Nat.reduceLT,reduceCtorEq]
 refine ab.ok (kQ gf caps C l _ hs hC hl) ?_
 simp -implicitDefEqProofs only[↓reduceIte,go_sem,Nat.reduceLT]
 refine ab.ok (pj l (H.length+1) l.length _ (by simp -implicitDefEqProofs only[go_sem]) hl) ?_
 simp -implicitDefEqProofs only[↓reduceIte,go_sem,Nat.reduceLT,Nat.reduceEqDiff]
 exact⟨_,an.refl _ _,by simp -implicitDefEqProofs only[↓reduceIte,go_sem,Nat.reduceLT]⟩
end CI
end Go.Proofs.YtggohfhfocgilaaGreat
namespace Go.Proofs.YtggohfhfocgilaaGreat
open Go.Proofs.YtggohfhfocgilaaGreatAw Go.RowKit
namespace CI
theorem tb{p:Int}:∀{t:List Int},(p::t).Pairwise (·≤·)→((St.ow iu p t).length=t.length↔(p::t).Nodup)
 |[],_=>by simp[St.ow]
 |y::t,h=>by
  have ih:=tb (List.pairwise_cons.1 h).2
  have hl:=St.rJ (eq:=iu) p t
  have hl2:=St.rJ (eq:=iu) y t
  have hpy:p≤y:=(List.pairwise_cons.1 h).1 y (by simp)
  have hyt:=(List.pairwise_cons.1 (List.pairwise_cons.1 h).2).1
  unfold St.ow
  by_cases e:y=p
  ·rw[if_pos (by simp[iu,e])]
   constructor
   ·intro g;simp only[List.length_cons]at g;exfalso;omega
   ·intro g;subst e;simp at g
  ·rw[if_neg (by simp[iu,e])]
   rw[List.length_cons,List.length_cons,Nat.add_right_cancel_iff,ih]
   constructor
   ·intro g
    refine List.nodup_cons.2 ⟨?_,g⟩
    intro hm
    rcases List.mem_cons.1 hm with hm|hm
    ·exact e hm.symm
    ·have:=hyt _ hm;omega
   ·exact fun g=>(List.nodup_cons.1 g).2
theorem rE(l:List Int):((St.ay iu (dI l)).length=l.length)=l.Nodup:=by
 have hp:(dI l).Perm l:=List.mergeSort_perm _ _
 have hs:(dI l).Pairwise (·≤·):=by
  have:=List.pairwise_mergeSort (le:=fun x y:Int=>decide (x≤y)) (fun a b c h1 h2=>by simp at*;omega) (fun a b=>by simp;omega) l
  exact this.imp fun h=>by simpa using h
 rw[←show(dI l).Nodup=l.Nodup from propext hp.nodup_iff,←dY l]
 generalize dI l=m at*
 cases m with
 |nil=>simp[St.ay]
 |cons p t=>simp only[St.ay,List.length_cons,Nat.add_right_cancel_iff];exact propext (tb hs)
theorem oV(H:aa)(id ag:Nat)(L:List Int)(ho:H[id]?=some (.arr 3 1 ag (ints L)))(hbig:L.length≤100000000000):
  ah Tryz.prog 115 [.sl id ag 0 L.length] H (.ok (.sl id ag 0 (St.ay iu L).length)) (gm H id ag iu L):=by
 have h:=gV H id ag (al ho) L.length hbig L rfl
 have e:aH H id ag L=H:=by
  unfold aH
  obtain⟨hl,hx⟩:=List.getElem?_eq_some_iff.1 ho
  have e2:(L.map eI)=ints L:=rfl
  rw[e2,←hx];exact List.set_getElem_self hl
 rwa[e]at h
theorem pQ(n:Bool)(l:List Int)(H:aa)(hl:l.length≤1000000000):ah Tryz.prog 72 [.d (.list n (ints l))] H (.ok (bA (decide l.Nodup))) H:=by
 refine ah.aj (hint:=(fun _=>false)) Tryz.func72 (by kernel_rfl) rfl [2] (by kernel_rfl) (by decide) (by simp[Tryz.ntmps72]) ?_
 rw[Tryz.ntmps72]
 simp -implicitDefEqProofs only[↓reduceIte,go_sem,Nat.reduceLT,reduceCtorEq]
 refine ab.ok (tC n l H) ?_
 simp -implicitDefEqProofs only[↓reduceIte,go_sem,Nat.reduceLT]
 refine ab.ok (se _ _ _ l _ (yV n l H.length (by omega)) (fun T=>by simp -implicitDefEqProofs only[go_sem]) hl) ?_
 simp -implicitDefEqProofs only[↓reduceIte,go_sem,Nat.reduceLT]
 have hq:=dY l
 have hcf:=rE l
 have hcd:=fun(T:aa) (id:Nat) ho=>oV T id l.length (dI l) ho (by omega)
 rw[hq]at hcd
 refine ab.ok (hcd _ (H.length+2) (by simp -implicitDefEqProofs only[go_sem])) ?_
 unfold gm
 generalize St.ay iu (dI l)=q at*
 simp -implicitDefEqProofs only[↓reduceIte,go_sem,Nat.reduceLT,Nat.reduceEqDiff,reduceCtorEq,az]
 refine ao.ret ?_
 simp -implicitDefEqProofs only[↓reduceIte,go_sem,Nat.reduceLT,←hcf,show((q.length:Int)=(l.length:Int))=(q.length=l.length)from propext Int.ofNat_inj]
end CI
end Go.Proofs.YtggohfhfocgilaaGreat
namespace Go.Proofs.YtggohfhfocgilaaGreat
open Go.Proofs.YtggohfhfocgilaaGreatAw Go.RowKit
abbrev du(n:Nat):AV:= .d (.v (.int .u64 n))
theorem oG.closed{H:aa}{φ:aI}{N:Addr→Prop}{w:World}{vals:Array Value}(vs:List Value)(h:oG H φ N w (vs.map fun v=> .d (.v v)) vals):vals=vs.toArray:=by
 obtain⟨hl,hh⟩:=h
 simp only[List.length_map]at hl
 apply Array.ext
 ·simpa using hl.symm
 ·intro i h1 h2
  have:=hh i (by simpa using h2) h1
  simp only[List.getElem_map]at this
  simpa using this.closed
def c9(less more:Bool):Int:=if less then -1 else if more then 1 else 0
def eD(a b:Int):Int:=c9 (decide (a<b)) (decide (b<a))
def mg(a b:ByteArray):Bool:=Op.bytesLess a.toList b.toList
def lJ(a b:ByteArray):Int:=c9 (mg a b) (!(mg a b||a.toList==b.toList))
def tZ(b:Nat):Bool:=decide (9218868437227405312<b%9223372036854775808)
def dN(b:Nat):Nat:=if tZ b then 9221120237041090560 else b
def fX(b:Nat):Nat:=if 9223372036854775808≤dN b then 18446744073709551615-dN b else dN b+9223372036854775808
def uD(n:Int):Nat:=(n%18446744073709551616).toNat
def uN(a b:Nat):Int:=c9 (decide (fX a<fX b)) (decide (fX b<fX a))
def aN(a b:ak):Int:=if a.kind≠b.kind then eD a.kind b.kind else if a.kind=1 then eD a.i b.i else if a.kind=2 then uN (uD a.i) (uD b.i)else if a.kind=3 then lJ a.s b.s else 0
theorem j9(n:Int):uD n<18446744073709551616:=by unfold uD;omega
theorem kR(n:Int):IntKind.u64.wrap n=((uD n:Nat):Int):=by
 unfold uD
 rw[Int.toNat_of_nonneg (Int.emod_nonneg _ (by omega))]
 simp[IntKind.wrap,IntKind.signed,IntKind.bits]
theorem lE(b:Nat)(h:b<18446744073709551616):dN b<18446744073709551616:=by unfold dN;split<;>omega
theorem B8(b:Nat)(h:b<18446744073709551616):fX b<18446744073709551616:=by
 have:=lE b h
 unfold fX;split<;>omega
theorem iJ(a:Int)(H:aa):ah Tryz.prog 222 [iA a] H (.ok (bA false)) H:=by
 refine ah.aj (hint:=(fun _=>false)) Tryz.func222 (by kernel_rfl) rfl [2] (by kernel_rfl) (by decide) (by simp[Tryz.ntmps222]) ?_
 rw[Tryz.ntmps222]
 simp -implicitDefEqProofs only[↓reduceIte,go_sem,Nat.reduceLT,Nat.reduceEqDiff,reduceCtorEq]
 refine ao.aF ?_
 simp -implicitDefEqProofs only[↓reduceIte,go_sem,Nat.reduceLT]
theorem gq(a:Int)(H:aa):ah Tryz.prog 223 [iA a] H (.ok (bA false)) H:=by
 refine ah.aj (hint:=(fun _=>false)) Tryz.func223 (by kernel_rfl) rfl [2] (by kernel_rfl) (by decide) (by simp[Tryz.ntmps223]) ?_
 rw[Tryz.ntmps223]
 simp -implicitDefEqProofs only[↓reduceIte,go_sem,Nat.reduceLT,Nat.reduceEqDiff,reduceCtorEq]
 refine ao.aF ?_
 simp -implicitDefEqProofs only[↓reduceIte,go_sem,Nat.reduceLT]
theorem fG(a:ByteArray)(H:aa):ah Tryz.prog 224 [sA a] H (.ok (bA false)) H:=by
 refine ah.aj (hint:=(fun _=>false)) Tryz.func224 (by kernel_rfl) rfl [2] (by kernel_rfl) (by decide) (by simp[Tryz.ntmps224]) ?_
 rw[Tryz.ntmps224]
 simp -implicitDefEqProofs only[↓reduceIte,go_sem,Nat.reduceLT,Nat.reduceEqDiff,reduceCtorEq]
 refine ao.aF ?_
 simp -implicitDefEqProofs only[↓reduceIte,go_sem,Nat.reduceLT]
theorem qD(a b:Int)(H:aa):ah Tryz.prog 185 [iA a,iA b] H (.ok (iA (eD a b))) H:=by
 refine ah.aj (hint:=(fun _=>false)) Tryz.func185 (by kernel_rfl) rfl [4] (by kernel_rfl) (by decide) (by simp[Tryz.ntmps185]) ?_
 rw[Tryz.ntmps185]
 simp -implicitDefEqProofs only[↓reduceIte,go_sem,Nat.reduceLT,Int.reduceNeg,reduceCtorEq]
 refine ab.ok (iJ a H) ?_
 simp -implicitDefEqProofs only[↓reduceIte,go_sem,Nat.reduceLT,Nat.reduceEqDiff,Int.reduceNeg]
 refine ab.ok (iJ b H) ?_
 simp -implicitDefEqProofs only[↓reduceIte,go_sem,Nat.reduceLT,Nat.reduceEqDiff,Int.reduceNeg,reduceCtorEq]
 by_cases h:a<b
 ·refine cF (by simp -implicitDefEqProofs only[go_sem,h]) ?_
  simp -implicitDefEqProofs only[go_sem,Int.reduceNeg]
  refine ao.aF ?_
  simp -implicitDefEqProofs only[↓reduceIte,go_sem,Nat.reduceLT,Int.reduceNeg,eD,c9,h]
 ·refine cx (by simp -implicitDefEqProofs only[go_sem,h]) ?_
  simp -implicitDefEqProofs only[↓reduceIte,go_sem,Nat.reduceLT,Nat.reduceEqDiff,reduceCtorEq]
  by_cases h2:b<a
  ·refine cF (by simp -implicitDefEqProofs only[go_sem,h2]) ?_
   simp -implicitDefEqProofs only[go_sem]
   refine ao.aF ?_
   simp -implicitDefEqProofs only[↓reduceIte,go_sem,Nat.reduceLT,reduceCtorEq,eD,c9,h,h2]
  ·refine cx (by simp -implicitDefEqProofs only[go_sem,h2]) ?_
   simp -implicitDefEqProofs only[go_sem]
   refine ao.aF ?_
   simp -implicitDefEqProofs only[↓reduceIte,go_sem,Nat.reduceLT,reduceCtorEq,eD,c9,h,h2]
theorem mZ(a b:Int)(H:aa):ah Tryz.prog 186 [iA a,iA b] H (.ok (iA (eD a b))) H:=by
 refine ah.aj (hint:=(fun _=>false)) Tryz.func186 (by kernel_rfl) rfl [4] (by kernel_rfl) (by decide) (by simp[Tryz.ntmps186]) ?_
 rw[Tryz.ntmps186]
 simp -implicitDefEqProofs only[↓reduceIte,go_sem,Nat.reduceLT,Int.reduceNeg,reduceCtorEq]
 refine ab.ok (gq a H) ?_
 simp -implicitDefEqProofs only[↓reduceIte,go_sem,Nat.reduceLT,Nat.reduceEqDiff,Int.reduceNeg]
 refine ab.ok (gq b H) ?_
 simp -implicitDefEqProofs only[↓reduceIte,go_sem,Nat.reduceLT,Nat.reduceEqDiff,Int.reduceNeg,reduceCtorEq]
 by_cases h:a<b
 ·refine cF (by simp -implicitDefEqProofs only[go_sem,h]) ?_
  simp -implicitDefEqProofs only[go_sem,Int.reduceNeg]
  refine ao.aF ?_
  simp -implicitDefEqProofs only[↓reduceIte,go_sem,Nat.reduceLT,Int.reduceNeg,eD,c9,h]
 ·refine cx (by simp -implicitDefEqProofs only[go_sem,h]) ?_
  simp -implicitDefEqProofs only[↓reduceIte,go_sem,Nat.reduceLT,Nat.reduceEqDiff,reduceCtorEq]
  by_cases h2:b<a
  ·refine cF (by simp -implicitDefEqProofs only[go_sem,h2]) ?_
   simp -implicitDefEqProofs only[go_sem]
   refine ao.aF ?_
   simp -implicitDefEqProofs only[↓reduceIte,go_sem,Nat.reduceLT,reduceCtorEq,eD,c9,h,h2]
  ·refine cx (by simp -implicitDefEqProofs only[go_sem,h2]) ?_
   simp -implicitDefEqProofs only[go_sem]
   refine ao.aF ?_
   simp -implicitDefEqProofs only[↓reduceIte,go_sem,Nat.reduceLT,reduceCtorEq,eD,c9,h,h2]
theorem mK(a b:ByteArray)(H:aa):ah Tryz.prog 188 [sA a,sA b] H (.ok (iA (lJ a b))) H:=by
 refine ah.aj (hint:=(fun _=>false)) Tryz.func188 (by kernel_rfl) rfl [4] (by kernel_rfl) (by decide) (by simp[Tryz.ntmps188]) ?_
 rw[Tryz.ntmps188]
 simp -implicitDefEqProofs only[↓reduceIte,go_sem,Nat.reduceLT,Int.reduceNeg,reduceCtorEq]
 refine ab.ok (fG a H) ?_
 simp -implicitDefEqProofs only[↓reduceIte,go_sem,Nat.reduceLT,Nat.reduceEqDiff,Int.reduceNeg]
 refine ab.ok (fG b H) ?_
 simp -implicitDefEqProofs only[↓reduceIte,go_sem,Nat.reduceLT,Nat.reduceEqDiff,Int.reduceNeg,reduceCtorEq]
 cases h:Op.bytesLess a.toList b.toList with
 |true=>
  refine cF (by simp -implicitDefEqProofs only[go_sem]) ?_
  simp -implicitDefEqProofs only[go_sem,Int.reduceNeg]
  refine ao.aF ?_
  simp -implicitDefEqProofs only[↓reduceIte,go_sem,Nat.reduceLT,Int.reduceNeg,lJ,c9,mg,h]
 |false=>
  refine cx (by simp -implicitDefEqProofs only[go_sem]) ?_
  simp -implicitDefEqProofs only[↓reduceIte,go_sem,Nat.reduceLT,Nat.reduceEqDiff,reduceCtorEq,h]
  cases h2:(a.toList==b.toList)with
  |false=>
   refine cF (by simp -implicitDefEqProofs only[go_sem]) ?_
   simp -implicitDefEqProofs only[go_sem]
   refine ao.aF ?_
   simp -implicitDefEqProofs only[↓reduceIte,go_sem,Nat.reduceLT,reduceCtorEq,lJ,c9,mg,h,h2]
  |true=>
   refine cx (by simp -implicitDefEqProofs only[go_sem]) ?_
   simp -implicitDefEqProofs only[go_sem]
   refine ao.aF ?_
   simp -implicitDefEqProofs only[↓reduceIte,go_sem,Nat.reduceLT,reduceCtorEq,lJ,c9,mg,h,h2]
theorem wJ(b:Nat)(hb:b<18446744073709551616):(FloatKind.f64.format.order b b !=some .eq)=tZ b:=by
 have key:∀d:Ieee.Datum,(d.order d !=some .eq)=d.isNaN:=by
  intro d
  cases d with
  |nan s f=>rfl
  |infinity s=>simp[Ieee.Datum.order,Ieee.Datum.isNaN]
  |number s m i=>simp[Ieee.Datum.order,Ieee.Datum.isNaN]
 have h1:(FloatKind.f64.format.order b b !=some .eq)=(FloatKind.f64.format.read b).isNaN:=key _
 rw[h1]
 have hs:FloatKind.f64.format.signWeight=9223372036854775808:=by decide
 have hb':FloatKind.f64.format.binade=4503599627370496:=by decide
 have hi:FloatKind.f64.format.infRung=9218868437227405312:=by decide
 unfold Ieee.Format.read tZ
 rw[hs,hb',hi]
 generalize b%9223372036854775808=r
 by_cases h1:r<4503599627370496
 ·simp only[h1,if_true,Ieee.Datum.isNaN];simp;omega
 ·by_cases h2:r<9218868437227405312
  ·simp only[h1,h2,if_true,if_false,Ieee.Datum.isNaN];simp;omega
  ·by_cases h3:r=9218868437227405312
   ·subst h3;simp[Ieee.Datum.isNaN]
   ·simp only[h1,h2,h3,if_false,Ieee.Datum.isNaN];simp;omega
def oT:Array Value→Sem Value:=Extern.MathFloatBits.float64frombits
theorem oS(n:Nat)(H:aa):ah Tryz.prog 210 [du n] H (.ok (.d (.v (.float .f64 n)))) H:=by
 intro φ N w vals hR hA
 have hv:=oG.closed [.int .u64 (n:Int)] hA
 subst hv
 refine .inr ⟨.float .f64 n,w,?_,φ,N,hR,ar.refl,.d (.v _ rfl)⟩
 rw[run_callFunc_extern (e:=oT) Tryz.func210 (by kernel_rfl) (by kernel_rfl) (by kernel_rfl) (by kernel_rfl)]
 rfl
theorem mj(b:Nat)(hb:b<18446744073709551616)(H:aa):ah Tryz.prog 179 [du b] H (.ok (du (dN b))) H:=by
 refine ah.aj (hint:=(fun _=>false)) Tryz.func179 (by kernel_rfl) rfl [2] (by kernel_rfl) (by decide) (by simp[Tryz.ntmps179]) ?_
 rw[Tryz.ntmps179]
 simp -implicitDefEqProofs only[↓reduceIte,go_sem,Nat.reduceLT,reduceCtorEq]
 refine ab.ok (oS b H) ?_
 simp -implicitDefEqProofs only[↓reduceIte,go_sem,Nat.reduceLT,Nat.reduceEqDiff,wJ b hb]
 cases h:tZ b with
 |true=>
  refine cF (by simp -implicitDefEqProofs only[go_sem]) ?_
  simp -implicitDefEqProofs only[go_sem]
  refine ao.aF ?_
  simp -implicitDefEqProofs only[↓reduceIte,go_sem,Nat.reduceLT,dN,h,du]
 |false=>
  refine cx (by simp -implicitDefEqProofs only[go_sem]) ?_
  simp -implicitDefEqProofs only[↓reduceIte,go_sem,Nat.reduceLT,reduceCtorEq]
  refine ao.aF ?_
  simp -implicitDefEqProofs only[↓reduceIte,go_sem,Nat.reduceLT,dN,h,Bool.false_eq_true]
theorem Fg(c:Nat)(h:c<9223372036854775808):IntKind.u64.wrap (Ev .u64 (c:Int) 9223372036854775808)=((c+9223372036854775808:Nat):Int):=by
 have e:=bits_or_u64_nat c 9223372036854775808 (by omega) (by omega)
 have:c|||9223372036854775808=c+9223372036854775808:=by
  have:=Nat.two_pow_add_eq_or_of_lt (i:=63) (b:=c) (by omega) 1
  rw[Nat.or_comm]
  simpa[Nat.add_comm]using this.symm
 rw[this]at e
 exact e
theorem G5(c:Nat)(h:c<18446744073709551616):IntKind.u64.wrap (EX .u64 (c:Int))=((18446744073709551615-c:Nat):Int):=by
 have e:=bits_xor_u64_nat 18446744073709551615 c (by omega) h
 have:18446744073709551615^^^c=18446744073709551615-c:=by
  rw[Nat.xor_comm]
  have:=Nat.testBit_two_pow_sub_succ (x:=c) (n:=64) h
  apply Nat.eq_of_testBit_eq
  intro i
  rw[Nat.testBit_xor]
  have h2:=this i
  rw[show 2^64-(c+1)=18446744073709551615-c from by omega]at h2
  rw[h2]
  have h3:(18446744073709551615:Nat).testBit i=decide (i<64):=by
   have:=Nat.testBit_two_pow_sub_one 64 i
   simpa using this
  rw[h3]
  by_cases hi:i<64
  ·simp[hi]
  ·have h5:2^64≤2^i:=Nat.pow_le_pow_right (by omega) (by omega)
   have:c.testBit i=false:=Nat.testBit_lt_two_pow (by omega)
   simp[hi,this]
 rw[this]at e
 exact e
theorem lC(b:Nat)(hb:b<18446744073709551616)(H:aa):ah Tryz.prog 166 [du b] H (.ok (du (fX b))) H:=by
 have hc:=lE b hb
 have k1:=mj b hb H
 unfold fX
 generalize dN b=c at hc k1⊢
 refine ah.aj (hint:=(fun _=>false)) Tryz.func166 (by kernel_rfl) rfl [2] (by kernel_rfl) (by decide) (by simp[Tryz.ntmps166]) ?_
 rw[Tryz.ntmps166]
 simp -implicitDefEqProofs only[↓reduceIte,go_sem,Nat.reduceLT,reduceCtorEq]
 refine ab.ok k1 ?_
 simp -implicitDefEqProofs only[↓reduceIte,go_sem,Nat.reduceLT]
 by_cases h:9223372036854775808≤c
 ·simp -implicitDefEqProofs only[↓reduceIte,go_sem,Nat.reduceLT,reduceCtorEq,show(9223372036854775808:Int)≤c from by omega,G5 c hc]
  refine ao.aF ?_
  simp -implicitDefEqProofs only[↓reduceIte,go_sem,Nat.reduceLT,h,du]
 ·simp -implicitDefEqProofs only[↓reduceIte,go_sem,Nat.reduceLT,reduceCtorEq,show ¬(9223372036854775808:Int)≤c from by omega,Fg c (by omega)]
  refine ao.aF ?_
  simp -implicitDefEqProofs only[↓reduceIte,go_sem,Nat.reduceLT,h,du]
theorem yA(a b:Nat)(ha:a<18446744073709551616)(hb:b<18446744073709551616)(H:aa):ah Tryz.prog 187 [du a,du b] H (.ok (iA (uN a b))) H:=by
 have k1:=lC a ha H
 have k2:=lC b hb H
 unfold uN
 generalize fX a=x at k1⊢
 generalize fX b=y at k2⊢
 refine ah.aj (hint:=(fun _=>false)) Tryz.func187 (by kernel_rfl) rfl [4] (by kernel_rfl) (by decide) (by simp[Tryz.ntmps187]) ?_
 rw[Tryz.ntmps187]
 simp -implicitDefEqProofs only[↓reduceIte,go_sem,Nat.reduceLT,Int.reduceNeg,reduceCtorEq]
 refine ab.ok k1 ?_
 simp -implicitDefEqProofs only[↓reduceIte,go_sem,Nat.reduceLT,Nat.reduceEqDiff]
 refine ab.ok k2 ?_
 simp -implicitDefEqProofs only[↓reduceIte,go_sem,Nat.reduceLT,Nat.reduceEqDiff,Int.reduceNeg]
 by_cases h:x<y
 ·refine cF (by simp -implicitDefEqProofs only[go_sem,h]) ?_
  simp -implicitDefEqProofs only[go_sem,Int.reduceNeg]
  refine ao.aF ?_
  simp -implicitDefEqProofs only[↓reduceIte,go_sem,Nat.reduceLT,Int.reduceNeg,c9,h]
 ·refine cx (by simp -implicitDefEqProofs only[go_sem,h]) ?_
  simp -implicitDefEqProofs only[↓reduceIte,go_sem,Nat.reduceLT,Nat.reduceEqDiff]
  by_cases h2:y<x
  ·refine cF (by simp -implicitDefEqProofs only[go_sem,h2]) ?_
   simp -implicitDefEqProofs only[go_sem]
   refine ao.aF ?_
   simp -implicitDefEqProofs only[↓reduceIte,go_sem,Nat.reduceLT,reduceCtorEq,c9,h,h2]
  ·refine cx (by simp -implicitDefEqProofs only[go_sem,h2]) ?_
   simp -implicitDefEqProofs only[go_sem]
   refine ao.aF ?_
   simp -implicitDefEqProofs only[↓reduceIte,go_sem,Nat.reduceLT,reduceCtorEq,c9,h,h2]
abbrev ak.av(v:ak):AV:= .agg [iA v.kind,iA v.i,sA v.s]
theorem cl(a b:ak)(H:aa):ah Tryz.prog 154 [a.av,b.av] H (.ok (iA (aN a b))) H:=by
 unfold aN
 refine ah.aj (hint:=(fun _=>false)) Tryz.func154 (by kernel_rfl) rfl [4] (by kernel_rfl) (by decide) (by simp[Tryz.ntmps154]) ?_
 rw[Tryz.ntmps154]
 simp -implicitDefEqProofs only[↓reduceIte,go_sem,ae,Nat.reduceAdd,Nat.reduceLT,Nat.reduceLeDiff,Nat.reduceEqDiff]
 by_cases h:a.kind=b.kind
 ·refine cx (by simp -implicitDefEqProofs only[go_sem,h]) ?_
  simp -implicitDefEqProofs only[↓reduceIte,go_sem,ae,Nat.reduceAdd,Nat.reduceLT,Nat.reduceLeDiff,Nat.reduceEqDiff]
  by_cases h1:a.kind=1
  ·refine cF (by simp -implicitDefEqProofs only[go_sem,h1]) ?_
   simp -implicitDefEqProofs only[↓reduceIte,go_sem,ae,Nat.reduceAdd,Nat.reduceLT,Nat.reduceLeDiff,Nat.reduceEqDiff]
   refine ab.ok (mZ _ _ _) ?_
   simp -implicitDefEqProofs only[↓reduceIte,go_sem,Nat.reduceLT]
   refine ao.ret ?_
   simp -implicitDefEqProofs only[↓reduceIte,go_sem,Nat.reduceLT,h1,←h]
  ·refine cx (by simp -implicitDefEqProofs only[go_sem,h1]) ?_
   simp -implicitDefEqProofs only[↓reduceIte,go_sem,Nat.reduceLT,Nat.reduceEqDiff]
   by_cases h2:a.kind=2
   ·refine cF (by simp -implicitDefEqProofs only[go_sem,h2]) ?_
    simp -implicitDefEqProofs only[↓reduceIte,go_sem,ae,Nat.reduceAdd,Nat.reduceLT,Nat.reduceLeDiff,Nat.reduceEqDiff,kR]
    refine ab.ok (yA _ _ (j9 _) (j9 _) _) ?_
    simp -implicitDefEqProofs only[↓reduceIte,go_sem,Nat.reduceLT]
    refine ao.ret ?_
    simp -implicitDefEqProofs only[↓reduceIte,go_sem,Nat.reduceLT,Int.reduceEq,h2,←h]
   ·refine cx (by simp -implicitDefEqProofs only[go_sem,h2]) ?_
    simp -implicitDefEqProofs only[↓reduceIte,go_sem,Nat.reduceLT,Nat.reduceEqDiff]
    by_cases h3:a.kind=3
    ·refine cF (by simp -implicitDefEqProofs only[go_sem,h3]) ?_
     simp -implicitDefEqProofs only[↓reduceIte,go_sem,ae,Nat.reduceAdd,Nat.reduceLT,Nat.reduceEqDiff]
     refine ab.ok (mK _ _ _) ?_
     simp -implicitDefEqProofs only[↓reduceIte,go_sem,Nat.reduceLT]
     refine ao.ret ?_
     simp -implicitDefEqProofs only[↓reduceIte,go_sem,Nat.reduceLT,Int.reduceEq,h3,←h]
    ·refine cx (by simp -implicitDefEqProofs only[go_sem,h3]) ?_
     simp -implicitDefEqProofs only[go_sem]
     refine ao.ret ?_
     simp -implicitDefEqProofs only[↓reduceIte,go_sem,Nat.reduceLT,h1,h2,h3,←h]
 ·refine cF (by simp -implicitDefEqProofs only[go_sem,h]) ?_
  simp -implicitDefEqProofs only[↓reduceIte,go_sem,ae,Nat.reduceAdd,Nat.reduceLT,Nat.reduceLeDiff,Nat.reduceEqDiff]
  refine ab.ok (qD _ _ _) ?_
  simp -implicitDefEqProofs only[↓reduceIte,go_sem,Nat.reduceLT]
  refine ao.ret ?_
  simp -implicitDefEqProofs only[↓reduceIte,go_sem,Nat.reduceLT,h]
def jF{α:Type}(p:α→Bool)(l:List α):Int:=if l.any p then(l.findIdx p:Nat)else -1
theorem nE{α:Type}{p:α→Bool}{l:List α}{k:Nat}(h:∀i (hi:i<k) (hl:i<l.length),p l[i]=false)(hk:k<l.length)(hp:p l[k]=true):jF p l=k:=by
 unfold jF
 rw[if_pos (List.any_eq_true.2 ⟨l[k],List.getElem_mem hk,hp⟩)]
 congr 1
 exact(List.findIdx_eq hk).2 ⟨hp,fun j hj=>h j hj (by omega)⟩
theorem any_none{α:Type}{p:α→Bool}{l:List α}(h:∀i (hi:i<l.length),p l[i]=false):l.any p=false:=by
 rw[List.any_eq_false]
 intro x hx
 obtain⟨i,hi,rfl⟩:=List.mem_iff_getElem.1 hx
 simp[h i hi]
theorem xu{α:Type}{p:α→Bool}{l:List α}{k:Nat}(hk:k<l.length)(h:p l[k]=true):l.any p=true:=List.any_eq_true.2 ⟨l[k],List.getElem_mem hk,h⟩
theorem lz{α:Type}{p:α→Bool}{l:List α}(h:∀i (hi:i<l.length),p l[i]=false):jF p l=-1:=by
 unfold jF
 rw[any_none h]
 rfl
theorem oB{α:Type}(p:α→Bool)(l:List α):(0≤jF p l)=(l.any p=true):=by
 unfold jF
 cases h:l.any p with
 |true=>simp
 |false=>simp
theorem mr(l:List ak)(p:ak→Bool)(g:FuncId)(caps:List AV)(n1:Bool)(H:aa)(hl:l.length≤9223372036854775807)(hf:∀v∈l,ah Tryz.prog g ([v.av]++caps) H (.ok (bA (p v))) H):
  ah Tryz.prog 178 [.d (.list n1 (l.map ak.enc)),.fn g caps] H (.ok (iA (jF p l))) H:=by
 refine ah.aj (hint:=(fun _=>false)) Tryz.func178 (by kernel_rfl) rfl [4] (by kernel_rfl) (by decide) (by simp[Tryz.ntmps178]) ?_
 rw[Tryz.ntmps178]
 simp -implicitDefEqProofs only[↓reduceIte,go_sem,Nat.reduceLT,Int.reduceNeg,reduceCtorEq]
 refine bf (fun k s H'=>H'=H∧(∀i (hi:i<k) (hl:i<l.length),p l[i]=false)∧s 0= .d (.list n1 (l.map ak.enc))∧s 1= .fn g caps∧s 7=iA l.length∧s 8=iA k) l.length hl (an.refl _ _) ?_ ?_ ?_
 ·refine⟨rfl,fun i hi=>by omega,?_⟩
  simp -implicitDefEqProofs only[↓reduceIte,go_sem,Nat.reduceLT,Nat.reduceEqDiff,reduceCtorEq]
 ·rintro k s H' hk hw ⟨rfl,hp,h0,h1,h7,h8⟩
  have hx:=List.getElem?_eq_getElem hk
  have hit:p l[k]=true→jF p l=k:=fun h=>nE hp hk h
  have hpp:p l[k]=false→∀i (hi:i<k+1) (hl:i<l.length),p l[i]=false:=fun h0 i hi hl'=>by
   rcases Nat.lt_or_ge i k with h|h
   ·exact hp i h hl'
   ·obtain rfl:i=k:=by omega
    exact h0
  have hfk:=hf l[k] (List.getElem_mem hk)
  generalize l[k]=v at hx hit hpp hfk
  simp -implicitDefEqProofs only[↓reduceIte,go_sem,Nat.reduceAdd,Nat.reduceLT,Nat.reduceEqDiff,reduceCtorEq,h0,h1,h7,h8,hk,hx,ak.enc]
  refine ab.ok hfk ?_
  cases hv:p v with
  |true=>
   simp -implicitDefEqProofs only[↓reduceIte,go_sem,Nat.reduceLT,Nat.reduceEqDiff]
   refine ao.aF ?_
   simp -implicitDefEqProofs only[↓reduceIte,go_sem,Nat.reduceLT,hit hv]
  |false=>
   simp -implicitDefEqProofs only[↓reduceIte,go_sem,Nat.reduceLT,Nat.reduceEqDiff,h8]
   refine cO.same ⟨rfl,hpp hv,?_⟩
   simp -implicitDefEqProofs only[↓reduceIte,go_sem,Nat.reduceLT,Nat.reduceEqDiff,reduceCtorEq,h0,h1,h7,hw]
 ·rintro s H' ⟨rfl,hp,h0,h1,h7,h8⟩
  simp -implicitDefEqProofs only[↓reduceIte,go_sem,Nat.reduceLT,Int.reduceNeg,h7,h8]
  refine ao.aF ?_
  simp -implicitDefEqProofs only[↓reduceIte,go_sem,Nat.reduceLT,Int.reduceNeg,lz fun i hi=>hp i hi hi]
theorem fp(l:List ak)(p:ak→Bool)(g:FuncId)(caps:List AV)(n1:Bool)(H:aa)(hl:l.length≤9223372036854775807)(hf:∀v∈l,ah Tryz.prog g ([v.av]++caps) H (.ok (bA (p v))) H):
  ah Tryz.prog 146 [.d (.list n1 (l.map ak.enc)),.fn g caps] H (.ok (bA (l.any p))) H:=by
 refine ah.aj (hint:=(fun _=>false)) Tryz.func146 (by kernel_rfl) rfl [4] (by kernel_rfl) (by decide) (by simp[Tryz.ntmps146]) ?_
 rw[Tryz.ntmps146]
 simp -implicitDefEqProofs only[↓reduceIte,go_sem,Nat.reduceLT,Nat.reduceEqDiff,reduceCtorEq]
 refine ab.ok (mr l p g caps n1 H hl hf) ?_
 simp -implicitDefEqProofs only[↓reduceIte,go_sem,Nat.reduceLT,oB]
 refine ao.aF ?_
 simp -implicitDefEqProofs only[↓reduceIte,go_sem,Nat.reduceLT,Bool.decide_eq_true]
def iv:ByteArray:=⟨#[]⟩
theorem yO(v:ak):jN v.kind v.i v.s 0 0 iv=decide (v=⟨0,0,iv⟩):=kX v ⟨0,0,iv⟩
theorem ko:iv.toList=[]:=by rw[ByteArray.toList_eq];rfl
theorem mL(s:ByteArray):s.toList=[]↔s=iv:=⟨fun h=>toList_inj (by rw[h,ko]),fun h=>by rw[h];exact ko⟩
theorem Bi(v:ak)(h0:v.kind=0):(v=⟨0,0,iv⟩)=(v.i=0∧v.s.toList=[]):=by
 cases v with|mk k i s=>
 simp only at h0
 subst h0
 simp[mL]
def eL(v:ak):Bool:=if v.kind=2 then decide (uD v.i=dN (uD v.i))&&decide (v.s.toList=[])else if v.kind=1 then decide (v.s.toList=[])else if v.kind=3 then decide (v.i=0)&&decide (v.s.size≤1024)else if v.kind=0 then decide (v.i=0)&&decide (v.s.toList=[])else false
theorem e9(v:ak)(H:aa):ah Tryz.prog 148 [v.av] H (.ok (bA (eL v))) H:=by
 have e0:∀x:ByteArray,(x.toList==(⟨#[]⟩:ByteArray).toList)=decide (x.toList=[]):=fun x=>by
  rw[show(⟨#[]⟩:ByteArray).toList=[]from ko];rw[Bool.eq_iff_iff];simp
 refine ah.aj (hint:=(fun _=>false)) Tryz.func148 (by kernel_rfl) rfl [2] (by kernel_rfl) (by decide) (by simp[Tryz.ntmps148]) ?_
 rw[Tryz.ntmps148]
 by_cases h2:v.kind=2
 ·simp -implicitDefEqProofs only[↓reduceIte,go_sem,ae,Nat.reduceAdd,Nat.reduceLT,Nat.reduceLeDiff,Nat.reduceEqDiff,h2]
  refine aR K.mixed (by kernel_rfl) ?_
  simp -implicitDefEqProofs only[↓reduceIte,go_sem,ae,Nat.reduceAdd,Nat.reduceLT,Nat.reduceLeDiff,Nat.reduceEqDiff,kR]
  refine ab.ok (mj _ (j9 _) _) ?_
  simp -implicitDefEqProofs only[↓reduceIte,go_sem,Nat.reduceLT,Nat.reduceEqDiff,Int.natCast_inj]
  cases hc:decide (uD v.i=dN (uD v.i))with
  |true=>
   simp -implicitDefEqProofs only[↓reduceIte,go_sem,ae,Nat.reduceAdd,Nat.reduceLT,Nat.reduceEqDiff,e0]
   refine ao.ret ?_
   simp -implicitDefEqProofs only[↓reduceIte,go_sem,Nat.reduceLT,eL,h2,hc]
  |false=>
   simp -implicitDefEqProofs only[↓reduceIte,go_sem,Nat.reduceLT,Nat.reduceEqDiff,reduceCtorEq]
   refine ao.ret ?_
   simp -implicitDefEqProofs only[↓reduceIte,go_sem,Nat.reduceLT,eL,h2,hc]
 by_cases h1:v.kind=1
 ·simp -implicitDefEqProofs only[↓reduceIte,go_sem,ae,Nat.reduceAdd,Nat.reduceLT,Nat.reduceLeDiff,Nat.reduceEqDiff,Int.reduceEq,h1,e0]
  refine ao.ret ?_
  simp -implicitDefEqProofs only[↓reduceIte,go_sem,Nat.reduceLT,Int.reduceEq,eL,h1]
 by_cases h3:v.kind=3
 ·by_cases hi:v.i=0
  ·simp -implicitDefEqProofs only[↓reduceIte,go_sem,ae,Nat.reduceAdd,Nat.reduceLT,Nat.reduceLeDiff,Nat.reduceEqDiff,Int.reduceEq,h3,hi]
   refine ao.ret ?_
   simp -implicitDefEqProofs only[↓reduceIte,go_sem,Nat.reduceLT,Int.reduceEq,eL,h3,hi,show((v.s.size:Int)≤1024)=(v.s.size≤1024)from by simp;omega]
  ·simp -implicitDefEqProofs only[↓reduceIte,go_sem,ae,Nat.reduceAdd,Nat.reduceLT,Nat.reduceLeDiff,Nat.reduceEqDiff,Int.reduceEq,reduceCtorEq,h3,hi]
   refine ao.ret ?_
   simp -implicitDefEqProofs only[↓reduceIte,go_sem,Nat.reduceLT,Int.reduceEq,eL,h3,hi]
 by_cases h0:v.kind=0
 ·have e1:jN v.kind v.i v.s 0 0 ⟨#[]⟩=(decide (v.i=0)&&decide (v.s.toList=[])):=by
   rw[show jN v.kind v.i v.s 0 0 ⟨#[]⟩=decide (v=⟨0,0,iv⟩)from yO v]
   simp only[Bi v h0,Bool.decide_and]
  simp -implicitDefEqProofs only[↓reduceIte,go_sem,ae,Nat.reduceAdd,Nat.reduceLT,Nat.reduceLeDiff,Nat.reduceEqDiff,h1,h2,h3,eq_true h0,e1]
  refine ao.ret ?_
  simp -implicitDefEqProofs only[↓reduceIte,go_sem,Nat.reduceLT,eL,h1,h2,h3,eq_true h0]
 simp -implicitDefEqProofs only[↓reduceIte,go_sem,ae,Nat.reduceAdd,Nat.reduceLT,Nat.reduceLeDiff,Nat.reduceEqDiff,reduceCtorEq,h0,h1,h2,h3]
 refine ao.ret ?_
 simp -implicitDefEqProofs only[↓reduceIte,go_sem,Nat.reduceLT,eL,h0,h1,h2,h3]
theorem qP(l:List Int)(p:Int→Bool)(g:FuncId)(caps:List AV)(n1:Bool)(H:aa)(hl:l.length≤9223372036854775807)(hf:∀v∈l,ah Tryz.prog g ([iA v]++caps) H (.ok (bA (p v))) H):
  ah Tryz.prog 110 [.d (.list n1 (ints l)),.fn g caps] H (.ok (iA (jF p l))) H:=by
 refine ah.aj (hint:=(fun _=>false)) Tryz.func110 (by kernel_rfl) rfl [4] (by kernel_rfl) (by decide) (by simp[Tryz.ntmps110]) ?_
 rw[Tryz.ntmps110]
 simp -implicitDefEqProofs only[↓reduceIte,go_sem,Nat.reduceLT,Int.reduceNeg,reduceCtorEq,az]
 refine bf (fun k s H'=>H'=H∧(∀i (hi:i<k) (hl:i<l.length),p l[i]=false)∧s 0= .d (.list n1 (ints l))∧s 1= .fn g caps∧s 7=iA l.length∧s 8=iA k) l.length hl (an.refl _ _) ?_ ?_ ?_
 ·refine⟨rfl,fun i hi=>by omega,?_⟩
  simp -implicitDefEqProofs only[↓reduceIte,go_sem,Nat.reduceLT,Nat.reduceEqDiff,reduceCtorEq]
 ·rintro k s H' hk hw ⟨rfl,hp,h0,h1,h7,h8⟩
  have hx:=b5 l k hk
  have hit:p l[k]=true→jF p l=k:=fun h=>nE hp hk h
  have hpp:p l[k]=false→∀i (hi:i<k+1) (hl:i<l.length),p l[i]=false:=fun h0 i hi hl'=>by
   rcases Nat.lt_or_ge i k with h|h
   ·exact hp i h hl'
   ·obtain rfl:i=k:=by omega
    exact h0
  have hfk:=hf l[k] (List.getElem_mem hk)
  generalize l[k]=v at hx hit hpp hfk
  simp -implicitDefEqProofs only[↓reduceIte,go_sem,Nat.reduceLT,Nat.reduceEqDiff,reduceCtorEq,h0,h1,h7,h8,hk,hx]
  refine ab.ok hfk ?_
  cases hv:p v with
  |true=>
   simp -implicitDefEqProofs only[↓reduceIte,go_sem,Nat.reduceLT,Nat.reduceEqDiff]
   refine ao.aF ?_
   simp -implicitDefEqProofs only[↓reduceIte,go_sem,Nat.reduceLT,hit hv]
  |false=>
   simp -implicitDefEqProofs only[↓reduceIte,go_sem,Nat.reduceLT,Nat.reduceEqDiff,h8]
   refine cO.same ⟨rfl,hpp hv,?_⟩
   simp -implicitDefEqProofs only[↓reduceIte,go_sem,Nat.reduceLT,Nat.reduceEqDiff,reduceCtorEq,h0,h1,h7,hw]
 ·rintro s H' ⟨rfl,hp,h0,h1,h7,h8⟩
  simp -implicitDefEqProofs only[↓reduceIte,go_sem,Nat.reduceLT,Int.reduceNeg,h7,h8]
  refine ao.aF ?_
  simp -implicitDefEqProofs only[↓reduceIte,go_sem,Nat.reduceLT,Int.reduceNeg,lz fun i hi=>hp i hi hi]
theorem iq(l:List Int)(p:Int→Bool)(g:FuncId)(caps:List AV)(n1:Bool)(H:aa)(hl:l.length≤9223372036854775807)(hf:∀v∈l,ah Tryz.prog g ([iA v]++caps) H (.ok (bA (p v))) H):
  ah Tryz.prog 65 [.d (.list n1 (ints l)),.fn g caps] H (.ok (bA (l.any p))) H:=by
 refine ah.aj (hint:=(fun _=>false)) Tryz.func65 (by kernel_rfl) rfl [4] (by kernel_rfl) (by decide) (by simp[Tryz.ntmps65]) ?_
 rw[Tryz.ntmps65]
 simp -implicitDefEqProofs only[↓reduceIte,go_sem,Nat.reduceLT,Nat.reduceEqDiff,reduceCtorEq]
 refine ab.ok (qP l p g caps n1 H hl hf) ?_
 simp -implicitDefEqProofs only[↓reduceIte,go_sem,Nat.reduceLT,oB]
 refine ao.aF ?_
 simp -implicitDefEqProofs only[↓reduceIte,go_sem,Nat.reduceLT,Bool.decide_eq_true]
theorem qN(x n:Int)(id:Nat)(H:aa)(hx:H[id]?=some (.box 3 1 0 1 [iA n])):ah Tryz.prog 114 [iA x,.ptr id 0 0 0] H (.ok (bA (decide (x<0∨n≤x)))) H:=by
 refine ah.aj (hint:=(fun _=>false)) Tryz.func114 (by kernel_rfl) rfl [3] (by kernel_rfl) (by decide) (by simp[Tryz.ntmps114]) ?_
 rw[Tryz.ntmps114]
 by_cases h:x<0
 ·simp -implicitDefEqProofs only[↓reduceIte,go_sem,Nat.reduceLT,Nat.reduceEqDiff,reduceCtorEq,h]
  refine ao.aF ?_
  simp -implicitDefEqProofs only[↓reduceIte,go_sem,Nat.reduceLT,h,true_or,decide_true]
 ·simp -implicitDefEqProofs only[↓reduceIte,go_sem,ae,Nat.reduceLT,Nat.reduceEqDiff,reduceCtorEq,h,hx]
  refine ao.aF ?_
  simp -implicitDefEqProofs only[↓reduceIte,go_sem,Nat.reduceLT,h,false_or]
def dr(l:List Int)(n:Int):Bool:= !(l.any fun x=>decide (x<0∨n≤x))
theorem fS(l:List Int)(nn:Bool)(n:Int)(H:aa)(hl:l.length≤1000000000000):ah Tryz.prog 71 [.d (.list nn (ints l)),iA n] H (.ok (bA (dr l n))) H:=by
 refine ah.aj (hint:=(fun _=>false)) Tryz.func71 (by kernel_rfl) rfl [4] (by kernel_rfl) (by decide) (by simp[Tryz.ntmps71]) ?_
 rw[Tryz.ntmps71]
 simp -implicitDefEqProofs only[↓reduceIte,go_sem,Nat.reduceLT,Nat.reduceEqDiff,reduceCtorEq]
 refine ab.ok (iq l (fun x=>decide (x<0∨n≤x)) _ _ nn _ (by omega) fun x _=>qN x n H.length _ (by simp -implicitDefEqProofs only[go_sem])) ?_
 simp -implicitDefEqProofs only[↓reduceIte,go_sem,Nat.reduceLT]
 refine ao.ret ?_
 simp -implicitDefEqProofs only[↓reduceIte,go_sem,Nat.reduceLT,dr]
theorem sR(x:Int)(H:aa):ah Tryz.prog 112 [iA x] H (.ok (bA (decide (x<1∨3<x)))) H:=by
 refine ah.aj (hint:=(fun _=>false)) Tryz.func112 (by kernel_rfl) rfl [2] (by kernel_rfl) (by decide) (by simp[Tryz.ntmps112]) ?_
 rw[Tryz.ntmps112]
 by_cases h:x<1
 ·simp -implicitDefEqProofs only[↓reduceIte,go_sem,Nat.reduceLT,Nat.reduceEqDiff,reduceCtorEq,h]
  refine ao.aF ?_
  simp -implicitDefEqProofs only[↓reduceIte,go_sem,Nat.reduceLT,h,true_or,decide_true]
 ·simp -implicitDefEqProofs only[↓reduceIte,go_sem,Nat.reduceLT,Nat.reduceEqDiff,reduceCtorEq,h]
  refine ao.aF ?_
  simp -implicitDefEqProofs only[↓reduceIte,go_sem,Nat.reduceLT,h,false_or]
theorem yU(v:ak)(H:aa):ah Tryz.prog 147 [v.av] H (.ok (bA (!eL v))) H:=by
 refine ah.aj (hint:=(fun _=>false)) Tryz.func147 (by kernel_rfl) rfl [2] (by kernel_rfl) (by decide) (by simp[Tryz.ntmps147]) ?_
 rw[Tryz.ntmps147]
 simp -implicitDefEqProofs only[↓reduceIte,go_sem,ae,Nat.reduceAdd,Nat.reduceLT,Nat.reduceEqDiff,ak.av]
 refine ab.ok (e9 v _) ?_
 simp -implicitDefEqProofs only[↓reduceIte,go_sem,Nat.reduceLT]
 refine ao.ret ?_
 simp -implicitDefEqProofs only[↓reduceIte,go_sem,Nat.reduceLT]
def ll(v:ak)(k:Int):Bool:=decide (v.kind≠0∧v.kind≠k)
def gj(r:List ak)(ks:List Int):Int:=if r.length≠ks.length then 4 else if(r.any fun v=> !eL v)=true then 1 else if((r.zip ks).any fun p=>ll p.1 p.2)=true then 7 else 0
def im(ks:List Int):List (List ak)→Int
 |[]=>0
 |r::R=>if gj r ks≠0 then gj r ks else im ks R
def cX(R:List (List ak))(ks:List Int):Int:=if ks.length=0∨8<ks.length∨(ks.any fun x=>decide (x<1∨3<x))=true then 1 else if 4096<R.length then 2 else im ks R
theorem p4(ks:List Int):∀{R:List (List ak)} {k:Nat} (hk:k<R.length) (h:∀i (hi:i<k) (hl:i<R.length),gj R[i] ks=0) (hx:gj R[k] ks≠0),im ks R=gj R[k] ks
 |[],k,hk,_,_=>by simp at hk
 |r::R,0,hk,_,hx=>by simp only[List.getElem_cons_zero]at hx⊢;simp[im,hx]
 |r::R,k+1,hk,h,hx=>by
  have h0:=h 0 (by omega) (by simp)
  simp only[List.getElem_cons_zero]at h0
  simp only[List.getElem_cons_succ]at hx⊢
  simp only[im,h0,ne_eq,not_true_eq_false,if_false]
  exact p4 ks (by simpa using hk) (fun i hi hl=>by have:=h (i+1) (by omega) (by simpa using hl);simpa using this) hx
theorem nX(ks:List Int):∀{R:List (List ak)} (h:∀i (hl:i<R.length),gj R[i] ks=0),im ks R=0
 |[],_=>rfl
 |r::R,h=>by
  have h0:=h 0 (by simp)
  simp only[List.getElem_cons_zero]at h0
  simp only[im,h0,ne_eq,not_true_eq_false,if_false]
  exact nX ks fun i hl=>by have:=h (i+1) (by simpa using hl);simpa using this
theorem Ae(r:List ak)(ks:List Int)(n1 n2:Bool)(H:aa)(hr:r.length≤1000000000000)(hk:ks.length≤1000000000000):
  ah Tryz.prog 113 [.d (.list n1 (r.map ak.enc)),.d (.list n2 (ints ks))] H (.ok (iA (gj r ks))) H:=by
 refine ah.aj (hint:=(fun _=>false)) Tryz.func113 (by kernel_rfl) rfl [4] (by kernel_rfl) (by decide) (by simp[Tryz.ntmps113]) ?_
 rw[Tryz.ntmps113]
 simp -implicitDefEqProofs only[↓reduceIte,go_sem,Nat.reduceLT,Nat.reduceEqDiff,reduceCtorEq,az,List.length_map]
 by_cases hl:r.length=ks.length
 case neg=>
  refine cF (by simp -implicitDefEqProofs only[go_sem,show ¬((r.length:Int)=(ks.length:Int)) by omega]) ?_
  simp -implicitDefEqProofs only[go_sem]
  refine ao.aF ?_
  simp -implicitDefEqProofs only[↓reduceIte,go_sem,Nat.reduceLT,gj,hl]
 refine cx (by simp -implicitDefEqProofs only[go_sem,hl]) ?_
 simp -implicitDefEqProofs only[↓reduceIte,go_sem,Nat.reduceLT,reduceCtorEq]
 refine ab.ok (fp r (fun v=> !eL v) _ [] n1 _ (by omega) fun v _=>yU v _) ?_
 cases hm:r.any fun v=> !eL v with
 |true=>
  simp -implicitDefEqProofs only[↓reduceIte,go_sem,Nat.reduceLT]
  refine ao.aF ?_
  simp -implicitDefEqProofs only[↓reduceIte,go_sem,Nat.reduceLT,gj,hl,hm]
 |false=>
 simp -implicitDefEqProofs only[↓reduceIte,go_sem,Nat.reduceLT,reduceCtorEq,List.length_map]
 have hzl:(r.zip ks).length=r.length:=by rw[List.length_zip];omega
 refine bf (fun k s H'=>H'=H∧(∀i (hi:i<k) (hl:i<(r.zip ks).length),ll (r.zip ks)[i].1 (r.zip ks)[i].2=false)∧s 1= .d (.list n2 (ints ks))∧s 14= .d (.list n1 (r.map ak.enc))∧s 15=iA r.length∧s 16=iA k) r.length (by omega) (an.refl _ _) ?_ ?_ ?_
 ·refine⟨rfl,fun i hi=>by omega,?_⟩
  simp -implicitDefEqProofs only[↓reduceIte,go_sem,Nat.reduceLT,Nat.reduceEqDiff]
 ·rintro k s H' hk' hw ⟨rfl,hp,t1,t14,t15,t16⟩
  have hkk:k<ks.length:=by omega
  have hx:(r.map ak.enc)[k]?=some r[k].enc:=by simp[hk']
  have hy:=b5 ks k hkk
  have hz:(r.zip ks)[k]'(by omega)=(r[k],ks[k]):=by simp
  have hit:ll r[k] ks[k]=true→((r.zip ks).any fun p=>ll p.1 p.2)=true:=fun h=>xu (k:=k) (by omega) (by rw[hz];exact h)
  have hpp:ll r[k] ks[k]=false→∀i (hi:i<k+1) (hl:i<(r.zip ks).length),ll (r.zip ks)[i].1 (r.zip ks)[i].2=false:=fun h0 i hi hl'=>by
   rcases Nat.lt_or_ge i k with h|h
   ·exact hp i h hl'
   ·obtain rfl:i=k:=by omega
    rw[hz];exact h0
  generalize r[k]=v at*
  generalize ks[k]=q at*
  simp -implicitDefEqProofs only[↓reduceIte,go_sem,aw,Nat.reduceAdd,Nat.reduceLT,Nat.reduceEqDiff,t14,t15,t16,hk',hx,ak.enc]
  refine aR K.mixed (by kernel_rfl) ?_
  by_cases h0:v.kind=0
  case' pos=>
   have hmk:ll v q=false:=by simp[ll,h0]
   simp -implicitDefEqProofs only[↓reduceIte,go_sem,ae,Nat.reduceAdd,Nat.reduceLT,Nat.reduceLeDiff,Nat.reduceEqDiff,reduceCtorEq,h0]
  case' neg=>
   by_cases h1:v.kind=q
   case' pos=>
    have hmk:ll v q=false:=by simp[ll,h1]
    have h2:¬q=0:=h1▸h0
    simp -implicitDefEqProofs only[↓reduceIte,go_sem,ae,Nat.reduceAdd,Nat.reduceLT,Nat.reduceLeDiff,Nat.reduceEqDiff,t1,hy,h2,h1]
   case' neg=>
    have hmk:ll v q=true:=by simp[ll,h0,h1]
    simp -implicitDefEqProofs only[↓reduceIte,go_sem,ae,Nat.reduceAdd,Nat.reduceLT,Nat.reduceLeDiff,Nat.reduceEqDiff,t1,hy,h0,h1]
    refine ao.ret ?_
    simp -implicitDefEqProofs only[↓reduceIte,go_sem,Nat.reduceLT,reduceCtorEq,gj,hl,hm,hit hmk]
  all_goals
   simp -implicitDefEqProofs only[↓reduceIte,go_sem,Nat.reduceLT,t16]
   refine cO.cut [] _ 0 rfl rfl (by simp -implicitDefEqProofs only[go_sem]) ?_
   refine⟨List.append_nil _,hpp hmk,?_⟩
   simp -implicitDefEqProofs only[↓reduceIte,go_sem,Nat.reduceLT,Nat.reduceEqDiff,t1,t14,t15,hw]
 ·rintro s H' ⟨rfl,hp,t1,t14,t15,t16⟩
  simp -implicitDefEqProofs only[↓reduceIte,go_sem,Nat.reduceLT,t15,t16]
  refine ao.aF ?_
  simp -implicitDefEqProofs only[↓reduceIte,go_sem,Nat.reduceLT,reduceCtorEq,gj,hl,hm,any_none (l:=r.zip ks) (p:=fun p=>ll p.1 p.2) fun i hi=>hp i (by omega) hi]
theorem jo(R:List (List ak))(ks:List Int)(n1 n2:Bool)(H:aa)(hR:R.length≤1000000000000)(hr:∀r∈R,r.length≤1000000000000)(hk:ks.length≤100000000000000):
  ah Tryz.prog 70 [.d (.list n1 (b9 R)),.d (.list n2 (ints ks))] H (.ok (iA (cX R ks))) H:=by
 refine ah.aj (hint:=(fun _=>false)) Tryz.func70 (by kernel_rfl) rfl [4] (by kernel_rfl) (by decide) (by simp[Tryz.ntmps70]) ?_
 rw[Tryz.ntmps70]
 have hc:∀H:aa,ah Tryz.prog 65 [.d (.list n2 (ints ks)),.fn 112 []] H (.ok (bA (ks.any fun x=>decide (x<1∨3<x)))) H:=fun H=>iq ks _ _ [] n2 H (by omega) fun x _=>sR x H
 have hrest:¬(ks.length=0∨8<ks.length∨(ks.any fun x=>decide (x<1∨3<x))=true)→cX R ks=if 4096<R.length then 2 else im ks R:=fun h=>by unfold cX;rw[if_neg h]
 have hbad:(ks.length=0∨8<ks.length∨(ks.any fun x=>decide (x<1∨3<x))=true)→cX R ks=1:=fun h=>by unfold cX;rw[if_pos h]
 generalize (ks.any fun x=>decide (x<1∨3<x))=cb at*
 by_cases h0:ks.length=0
 ·simp -implicitDefEqProofs only[↓reduceIte,go_sem,Nat.reduceLT,Nat.reduceEqDiff,az,h0]
  refine ao.aF ?_
  simp -implicitDefEqProofs only[↓reduceIte,go_sem,Nat.reduceLT,hbad (.inl h0)]
 by_cases h8:8<ks.length
 ·simp -implicitDefEqProofs only[↓reduceIte,go_sem,Nat.reduceLT,Nat.reduceEqDiff,reduceCtorEq,az,show ¬((ks.length:Int)=0) by omega,show(8:Int)<ks.length by omega]
  refine ao.aF ?_
  simp -implicitDefEqProofs only[↓reduceIte,go_sem,Nat.reduceLT,hbad (.inr (.inl h8))]
 simp -implicitDefEqProofs only[↓reduceIte,go_sem,Nat.reduceLT,Nat.reduceEqDiff,reduceCtorEq,az,show ¬((ks.length:Int)=0) by omega,show ¬((8:Int)<ks.length) by omega]
 refine ab.ok (hc _) ?_
 cases cb with
 |true=>
  simp -implicitDefEqProofs only[↓reduceIte,go_sem,Nat.reduceLT,Nat.reduceEqDiff,reduceCtorEq]
  refine ao.aF ?_
  simp -implicitDefEqProofs only[↓reduceIte,go_sem,Nat.reduceLT,hbad (.inr (.inr rfl))]
 |false=>
 have hch:=hrest (by rintro(h|h|h);exact h0 h;exact h8 h;cases h)
 by_cases hb:4096<R.length
 ·simp -implicitDefEqProofs only[↓reduceIte,go_sem,Nat.reduceLT,Nat.reduceEqDiff,reduceCtorEq,b7,show(4096:Int)<R.length by omega]
  refine ao.aF ?_
  simp -implicitDefEqProofs only[↓reduceIte,go_sem,Nat.reduceLT,hch,hb]
 simp -implicitDefEqProofs only[↓reduceIte,go_sem,Nat.reduceLT,Nat.reduceEqDiff,reduceCtorEq,b7,show ¬((4096:Int)<R.length) by omega]
 rw[if_neg hb]at hch
 refine bf (fun k s H'=>H'=H∧(∀i (hi:i<k) (hl:i<R.length),gj R[i] ks=0)∧s 1= .d (.list n2 (ints ks))∧s 27= .d (.list n1 (b9 R))∧s 28=iA R.length∧s 29=iA k) R.length (by omega) (an.refl _ _) ?_ ?_ ?_
 ·refine⟨rfl,fun i hi=>by omega,?_⟩
  simp -implicitDefEqProofs only[↓reduceIte,go_sem,Nat.reduceLT,Nat.reduceEqDiff]
 ·rintro k s H' hk' hw ⟨rfl,hp,t1,t27,t28,t29⟩
  have hx:=jy R k hk'
  have hrl:=hr R[k] (List.getElem_mem hk')
  have hit:gj R[k] ks≠0→im ks R=gj R[k] ks:=fun h=>p4 ks hk' hp h
  have hpp:gj R[k] ks=0→∀i (hi:i<k+1) (hl:i<R.length),gj R[i] ks=0:=fun h0 i hi hl'=>by
   rcases Nat.lt_or_ge i k with h|h
   ·exact hp i h hl'
   ·obtain rfl:i=k:=by omega
    exact h0
  generalize R[k]=v at*
  simp -implicitDefEqProofs only[↓reduceIte,go_sem,Nat.reduceLT,Nat.reduceEqDiff,t1,t27,t28,t29,hk',hx]
  refine ab.ok (Ae v ks false n2 _ hrl (by omega)) ?_
  generalize gj v ks=e at*
  by_cases he:e=0
  ·simp -implicitDefEqProofs only[↓reduceIte,go_sem,Nat.reduceLT,Nat.reduceEqDiff,t29,he]
   refine cO.same ⟨rfl,hpp he,?_⟩
   simp -implicitDefEqProofs only[↓reduceIte,go_sem,Nat.reduceLT,Nat.reduceEqDiff,t1,t27,t28,hw]
  ·simp -implicitDefEqProofs only[↓reduceIte,go_sem,Nat.reduceLT,Nat.reduceEqDiff,he]
   refine ao.aF ?_
   simp -implicitDefEqProofs only[↓reduceIte,go_sem,Nat.reduceLT,hch,hit he]
 ·rintro s H' ⟨rfl,hp,t1,t27,t28,t29⟩
  simp -implicitDefEqProofs only[↓reduceIte,go_sem,Nat.reduceLT,t28,t29]
  refine ao.aF ?_
  simp -implicitDefEqProofs only[↓reduceIte,go_sem,Nat.reduceLT,hch,nX ks fun i hi=>hp i hi hi]
def gn(r:List ak)(c:Int):ak:=if c<0 then⟨0,0,iv⟩else r.getD c.toNat ⟨0,0,iv⟩
theorem xb(r:List ak)(c:Int)(nn:Bool)(H:aa):ah Tryz.prog 155 [.d (.list nn (r.map ak.enc)),iA c] H (.ok (gn r c).av) H:=by
 refine ah.cG (hint:=fun _=>false) Tryz.func155 (by kernel_rfl) rfl [.cell 4 100] (by kernel_rfl) (by simp[Tryz.ntmps155]) ?_
 rw[Tryz.ntmps155]
 by_cases h1:c<0
 ·simp -implicitDefEqProofs only[↓reduceIte,go_sem,aw,Nat.reduceAdd,Nat.reduceLT,Nat.reduceEqDiff,h1]
  refine cY.ret ?_
  simp -implicitDefEqProofs only[↓reduceIte,go_sem,ae,Nat.reduceAdd,Nat.reduceLT,Nat.reduceLeDiff,Nat.reduceEqDiff,bR,cZ]
  simp[gn,h1,iv]
 ·obtain⟨n,rfl⟩:=Int.eq_ofNat_of_zero_le (show 0≤c by omega)
  by_cases h2:n<r.length
  ·have h2':((r.length:Int)≤(n:Int))=False:=eq_false (by omega)
   have h3:((n:Int)<0)=False:=eq_false (by omega)
   have hx:=List.getElem?_eq_getElem h2
   have ha:gn r (n:Int)=r[n]:=by simp[gn,List.getD,hx];intro h;omega
   rw[ha]
   generalize r[n]=v at hx
   simp -implicitDefEqProofs only[↓reduceIte,go_sem,aw,Nat.reduceAdd,Nat.reduceLT,Nat.reduceEqDiff,reduceCtorEq,h3,h2',List.length_map,hx,ak.enc]
   refine cY.ret ?_
   simp -implicitDefEqProofs only[↓reduceIte,go_sem,ae,Nat.reduceAdd,Nat.reduceLT,Nat.reduceLeDiff,Nat.reduceEqDiff,bR,cZ]
  ·have h2':((r.length:Int)≤(n:Int))=True:=eq_true (by omega)
   have h3:((n:Int)<0)=False:=eq_false (by omega)
   simp -implicitDefEqProofs only[↓reduceIte,go_sem,aw,Nat.reduceAdd,Nat.reduceLT,Nat.reduceEqDiff,reduceCtorEq,h3,h2',List.length_map]
   refine cY.ret ?_
   simp -implicitDefEqProofs only[↓reduceIte,go_sem,ae,Nat.reduceAdd,Nat.reduceLT,Nat.reduceLeDiff,Nat.reduceEqDiff,bR,cZ]
   have:r[n]?=none:=List.getElem?_eq_none (by omega)
   simp[gn,this,iv]
theorem lL{α:Type}(l:List α)(n:Nat)(h:l.length=n):l.take n=l:=List.take_of_length_le (by omega)
end Go.Proofs.YtggohfhfocgilaaGreat
namespace Go.Proofs.YtggohfhfocgilaaGreat
namespace St
variable {α:Type}
structure Ord (lt:α→α→Bool):Prop where
 asym:∀x y,lt x y=true→lt y x=false
 ntrans:∀x y z,lt x z=true→lt x y=true∨lt y z=true
variable {lt:α→α→Bool} {l:List α}
theorem Ord.ET(h:Ord lt)(x:α):lt x x=false:=by
 cases e:lt x x with
 |false=>rfl
 |true=>rw[h.asym x x e]at e;cases e
theorem Ord.trans(h:Ord lt){x y z:α}(h1:lt x y=true)(h2:lt y z=true):lt x z=true:=by
 rcases h.ntrans x z y h1 with h3|h3
 ·exact h3
 ·rw[h.asym y z h2]at h3;cases h3
theorem Ord.le_trans(h:Ord lt){x y z:α}(h1:lt y x=false)(h2:lt z y=false):lt z x=false:=by
 cases e:lt z x with
 |false=>rfl
 |true=>
  rcases h.ntrans z y x e with h3|h3
  ·rw[h2]at h3;cases h3
  ·rw[h1]at h3;cases h3
theorem Ord.CP(h:Ord lt){x y z:α}(h1:lt x y=true)(h2:lt z y=false):lt x z=true:=by
 rcases h.ntrans x z y h1 with h3|h3
 ·exact h3
 ·rw[h2]at h3;cases h3
theorem Ord.Fx(h:Ord lt){x y z:α}(h1:lt y x=false)(h2:lt y z=true):lt x z=true:=by
 rcases h.ntrans y x z h2 with h3|h3
 ·rw[h1]at h3;cases h3
 ·exact h3
def au(lt:α→α→Bool)(l:List α):Prop:=l.Pairwise fun x y=>lt y x=false
def eqv(lt:α→α→Bool)(x y:α):Bool:= !lt x y&& !lt y x
theorem mS{x y:α}:eqv lt x y=true↔lt x y=false∧lt y x=false:=by simp[eqv]
def bD(lt:α→α→Bool)(l m:List α):Prop:=∀x,l.filter (eqv lt x)=m.filter (eqv lt x)
theorem bD.refl(l:List α):bD lt l l:=fun _=>rfl
theorem bD.symm{l m:List α}(h:bD lt l m):bD lt m l:=fun x=>(h x).symm
theorem bD.trans{l m n:List α}(h:bD lt l m)(g:bD lt m n):bD lt l n:=fun x=>(h x).trans (g x)
theorem bD.app{l l' m m':List α}(h:bD lt l l')(g:bD lt m m'):bD lt (l++m) (l'++m'):=fun x=>by rw[List.filter_append,List.filter_append,h x,g x]
theorem sx(ho:Ord lt)(x:α):eqv lt x x=true:=mS.2 ⟨ho.ET x,ho.ET x⟩
theorem bD.mem(ho:Ord lt){l m:List α}(h:bD lt l m){x:α}(hx:x∈l):x∈m:=by
 have:x∈l.filter (eqv lt x):=List.mem_filter.2 ⟨hx,sx ho x⟩
 rw[h x]at this
 exact(List.mem_filter.1 this).1
theorem bD.mem_iff(ho:Ord lt){l m:List α}(h:bD lt l m){x:α}:x∈l↔x∈m:=⟨h.mem ho,h.symm.mem ho⟩
theorem bD.swap(ho:Ord lt){u v:List α}(h:∀x∈u,∀y∈v,lt y x=true):bD lt (u++v) (v++u):=by
 intro c
 rw[List.filter_append,List.filter_append]
 by_cases hu:∃x∈u,eqv lt c x=true
 ·obtain⟨x,hx,hc⟩:=hu
  have:v.filter (eqv lt c)=[]:=by
   rw[List.filter_eq_nil_iff]
   intro y hy hcy
   have h1:=mS.1 hc
   have h2:=mS.1 hcy
   have h3:=h x hx y hy
   rcases ho.ntrans y c x h3 with h4|h4
   ·rw[h2.2]at h4;cases h4
   ·rw[h1.1]at h4;cases h4
  rw[this];simp
 ·have:u.filter (eqv lt c)=[]:=by
   rw[List.filter_eq_nil_iff]
   intro x hx hc
   exact hu ⟨x,hx,hc⟩
  rw[this];simp
theorem uniq(ho:Ord lt):∀{l m:List α},au lt l→au lt m→bD lt l m→l=m
 |[],[],_,_,_=>rfl
 |[],b::t,_,_,h=>by have:=h.symm.mem ho (List.mem_cons_self (a:=b) (l:=t));simp at this
 |a::t,[],_,_,h=>by have:=h.mem ho (List.mem_cons_self (a:=a) (l:=t));simp at this
 |a::t,b::t',hl,hm,h=>by
  have ha:a∈b::t':=h.mem ho (List.mem_cons_self ..)
  have hb:b∈a::t:=h.symm.mem ho (List.mem_cons_self ..)
  have h1:lt a b=false:=by
   rcases List.mem_cons.1 ha with rfl|ha
   ·exact ho.ET _
   ·exact(List.pairwise_cons.1 hm).1 a ha
  have h2:lt b a=false:=by
   rcases List.mem_cons.1 hb with rfl|hb
   ·exact ho.ET _
   ·exact(List.pairwise_cons.1 hl).1 b hb
  have e1:eqv lt a a=true:=sx ho a
  have e2:eqv lt a b=true:=mS.2 ⟨h1,h2⟩
  have h3:=h a
  rw[List.filter_cons_of_pos e1,List.filter_cons_of_pos e2]at h3
  obtain rfl:a=b:=(List.cons.inj h3).1
  have:t=t':=uniq ho (List.pairwise_cons.1 hl).2 (List.pairwise_cons.1 hm).2 fun x=>by
   have h4:=h x
   by_cases hx:eqv lt x a=true
   ·rw[List.filter_cons_of_pos hx,List.filter_cons_of_pos hx]at h4
    exact(List.cons.inj h4).2
   ·rw[List.filter_cons_of_neg hx,List.filter_cons_of_neg hx]at h4
    exact h4
  rw[this]
def ins(lt:α→α→Bool)(x:α):List α→List α
 |[]=>[x]
 |y::t=>if lt y x then y::ins lt x t else x::y::t
def aG(lt:α→α→Bool)(l:List α):List α:=l.foldr (ins lt) []
theorem xw{x z:α}:∀{l:List α},z∈ins lt x l↔z=x∨z∈l
 |[]=>by simp[ins]
 |y::t=>by
  unfold ins
  split
  ·rw[List.mem_cons,xw,List.mem_cons]
   constructor
   ·rintro(h|h|h)
    ·exact .inr (.inl h)
    ·exact .inl h
    ·exact .inr (.inr h)
   ·rintro(h|h|h)
    ·exact .inr (.inl h)
    ·exact .inl h
    ·exact .inr (.inr h)
  ·simp
theorem od(ho:Ord lt)(x:α):∀{l:List α},au lt l→au lt (ins lt x l)
 |[],_=>by simp[ins,au]
 |y::t,h=>by
  have h':=List.pairwise_cons.1 h
  unfold ins
  split
  ·rename_i hy
   refine List.pairwise_cons.2 ⟨fun z hz=>?_,od ho x h'.2⟩
   rcases xw.1 hz with rfl|hz
   ·exact ho.asym _ _ hy
   ·exact h'.1 z hz
  ·rename_i hy
   have hy:lt y x=false:=by simpa using hy
   refine List.pairwise_cons.2 ⟨fun z hz=>?_,h⟩
   rcases List.mem_cons.1 hz with rfl|hz
   ·exact hy
   ·exact ho.le_trans hy (h'.1 z hz)
theorem tl(ho:Ord lt)(x:α):∀l:List α,bD lt (ins lt x l) (x::l)
 |[]=> .refl _
 |y::t=>by
  unfold ins
  split
  ·rename_i hy
   have h1:bD lt ([y]++ins lt x t) ([y]++(x::t)):=bD.app (.refl _) (tl ho x t)
   refine h1.trans ?_
   have h2:bD lt ([y]++[x]) ([x]++[y]):=(bD.swap ho (u:=[x]) (v:=[y]) (by simpa using hy)).symm
   have:=bD.app h2 (.refl t)
   simpa using this
  ·exact .refl _
theorem cc(ho:Ord lt):∀l:List α,au lt (aG lt l)
 |[]=>List.Pairwise.nil
 |x::l=>od ho x (cc ho l)
theorem dt(ho:Ord lt):∀l:List α,bD lt (aG lt l) l
 |[]=> .refl _
 |x::l=>(tl ho x _).trans (bD.app (l:=[x]) (.refl _) (dt ho l))
theorem wU(x:α):∀l:List α,(ins lt x l).length=l.length+1
 |[]=>rfl
 |y::t=>by unfold ins;split<;>simp[wU x t]
theorem aX:∀l:List α,(aG lt l).length=l.length
 |[]=>rfl
 |x::l=>by
  show(ins lt x (aG lt l)).length=_
  rw[wU,aX l];rfl
theorem eZ(ho:Ord lt){l:List α}{x:α}:x∈aG lt l↔x∈l:=(dt ho l).mem_iff ho
theorem iL(ho:Ord lt){l m:List α}(h1:au lt m)(h2:bD lt m l):aG lt l=m:=uniq ho (cc ho l) h1 ((dt ho l).trans h2.symm)
theorem cr(ho:Ord lt){l:List α}(h:au lt l):aG lt l=l:=iL ho h (.refl _)
theorem au.app{l m:List α}(hl:au lt l)(hm:au lt m)(h:∀x∈l,∀y∈m,lt y x=false):au lt (l++m):=List.pairwise_append.2 ⟨hl,hm,h⟩
theorem au.left{l m:List α}(h:au lt (l++m)):au lt l:=(List.pairwise_append.1 h).1
theorem au.right{l m:List α}(h:au lt (l++m)):au lt m:=(List.pairwise_append.1 h).2.1
theorem au.sf{l m:List α}(h:au lt (l++m)):∀x∈l,∀y∈m,lt y x=false:=(List.pairwise_append.1 h).2.2
theorem insert_eq(ho:Ord lt){A B l:List α}{x:α}(hS:A++B=aG lt l)(hB:∀y∈B,lt x y=true)(hA:∀y∈A,lt x y=false):A++x::B=aG lt (l++[x]):=by
 refine(iL ho ?_ ?_).symm
 ·have hs:=cc ho l
  rw[←hS]at hs
  refine au.app hs.left (List.pairwise_cons.2 ⟨fun y hy=>ho.asym _ _ (hB y hy),hs.right⟩) ?_
  intro y hy z hz
  rcases List.mem_cons.1 hz with rfl|hz
  ·exact hA y hy
  ·exact hs.sf y hy z hz
 ·have h1:bD lt (x::B) (B++[x]):=(bD.swap ho (u:=B) (v:=[x]) (by simpa using hB)).symm
  have h2:bD lt (A++x::B) ((A++B)++[x]):=by rw[List.append_assoc];exact bD.app (.refl A) h1
  refine h2.trans (bD.app ?_ (.refl _))
  rw[hS]
  exact dt ho l
theorem D2(ho:Ord lt){A U V B:List α}(h1:au lt (A++U))(h2:au lt (V++B))(h3:∀u∈U,∀v∈V,lt v u=true)(h4:∀x∈A,∀y∈B,lt y x=false):
  aG lt (A++V)++aG lt (U++B)=aG lt ((A++U)++(V++B)):=by
 refine(iL ho ?_ ?_).symm
 ·refine au.app (cc ho _) (cc ho _) fun x hx y hy=>?_
  rw[eZ ho,List.mem_append]at hx hy
  rcases hx with hx|hx<;>rcases hy with hy|hy
  ·exact h1.sf x hx y hy
  ·exact h4 x hx y hy
  ·exact ho.asym _ _ (h3 y hy x hx)
  ·exact h2.sf x hx y hy
 ·refine(bD.app (dt ho _) (dt ho _)).trans ?_
  have:=bD.app (bD.app (.refl A) (bD.swap ho h3).symm) (.refl B)
  simpa[List.append_assoc]using this
theorem au.get(h:au lt l){i j:Nat}(hi:i<j){x y:α}(hx:l[i]?=some x)(hy:l[j]?=some y):lt y x=false:=by
 obtain⟨h1,rfl⟩:=List.getElem?_eq_some_iff.1 hx
 obtain⟨h2,rfl⟩:=List.getElem?_eq_some_iff.1 hy
 exact List.pairwise_iff_getElem.1 h i j h1 h2 hi
theorem au.kg(ho:Ord lt)(h:au lt l){i j:Nat}(hi:i≤j){x y:α}(hx:l[i]?=some x)(hy:l[j]?=some y):lt y x=false:=by
 rcases Nat.lt_or_ge i j with h1|h1
 ·exact h.get h1 hx hy
 ·obtain rfl:i=j:=by omega
  rw[hx]at hy;cases hy
  exact ho.ET _
theorem lT(ho:Ord lt){X Y:List α}(hX:au lt X)(hY:au lt Y){s e:Nat}(hs:s≤X.length)(he:e≤Y.length)
  (hu:s=X.length∨e=0∨∃x y,X[s]?=some x∧Y[e-1]?=some y∧lt y x=true) (hl:s=0∨e=Y.length∨∃x y,X[s-1]?=some x∧Y[e]?=some y∧lt y x=false):
  aG lt (X.take s++Y.take e)++aG lt (X.drop s++Y.drop e)=aG lt (X++Y):=by
 have key:=D2 ho (A:=X.take s) (U:=X.drop s) (V:=Y.take e) (B:=Y.drop e) (by rw[List.take_append_drop];exact hX) (by rw[List.take_append_drop];exact hY) ?_ ?_
 ·rwa[List.take_append_drop,List.take_append_drop]at key
 ·intro u hu' v hv'
  obtain⟨i,hi⟩:=List.getElem?_of_mem hu'
  obtain⟨j,hj⟩:=List.getElem?_of_mem hv'
  rw[List.getElem?_drop]at hi
  have hj':=(List.getElem?_eq_some_iff.1 hj).1
  simp only[List.length_take]at hj'
  rw[List.getElem?_take,if_pos (by omega)]at hj
  have hi':=(List.getElem?_eq_some_iff.1 hi).1
  rcases hu with h|h|⟨x,y,hx,hy,h⟩
  ·omega
  ·omega
  ·have h5:=hX.kg ho (show s≤s+i by omega) hx hi
   have h6:=hY.kg ho (show j≤e-1 by omega) hj hy
   exact ho.CP (ho.Fx h6 h) h5
 ·intro x hx' y hy'
  obtain⟨i,hi⟩:=List.getElem?_of_mem hx'
  obtain⟨j,hj⟩:=List.getElem?_of_mem hy'
  rw[List.getElem?_drop]at hj
  have hi':=(List.getElem?_eq_some_iff.1 hi).1
  simp only[List.length_take]at hi'
  rw[List.getElem?_take,if_pos (by omega)]at hi
  have hj':=(List.getElem?_eq_some_iff.1 hj).1
  rcases hl with h|h|⟨x0,y0,hx,hy,h⟩
  ·omega
  ·omega
  ·have h5:=hX.kg ho (show i≤s-1 by omega) hi hx
   have h6:=hY.kg ho (show e≤e+j by omega) hy hj
   exact ho.le_trans h5 (ho.le_trans h h6)
theorem p0(ho:Ord lt){x:α}{Y:List α}(hY:au lt Y){e:Nat}(he:e≤Y.length)(hu:e=0∨∃y,Y[e-1]?=some y∧lt y x=true)(hl:e=Y.length∨∃y,Y[e]?=some y∧lt y x=false):
  Y.take e++x::Y.drop e=aG lt (x::Y):=by
 have key:=lT ho (X:=[x]) (s:=0) (by simp[au]) hY (by simp) he (by rcases hu with h|⟨y,h1,h2⟩;exact .inr (.inl h);exact .inr (.inr ⟨x,y,rfl,h1,h2⟩)) (.inl rfl)
 have h1:au lt (Y.take e):=by have:=hY;rw[←List.take_append_drop e Y]at this;exact this.left
 have h2:au lt (x::Y.drop e):=by
  have h3:au lt (Y.drop e):=by have:=hY;rw[←List.take_append_drop e Y]at this;exact this.right
  refine List.pairwise_cons.2 ⟨fun y hy=>?_,h3⟩
  obtain⟨j,hj⟩:=List.getElem?_of_mem hy
  rw[List.getElem?_drop]at hj
  rcases hl with h|⟨y0,hy0,h⟩
  ·have:=(List.getElem?_eq_some_iff.1 hj).1;omega
  ·exact ho.le_trans h (hY.kg ho (Nat.le_add_right _ _) hy0 hj)
 simp only[List.take_zero,List.nil_append,List.drop_zero,List.singleton_append]at key
 rw[cr ho h1,cr ho h2]at key
 exact key
theorem oq(ho:Ord lt){x:α}{X:List α}(hX:au lt X){s:Nat}(hs:s≤X.length)(hu:s=X.length∨∃y,X[s]?=some y∧lt x y=true)(hl:s=0∨∃y,X[s-1]?=some y∧lt x y=false):
  X.take s++x::X.drop s=aG lt (X++[x]):=by
 refine insert_eq ho (by rw[List.take_append_drop,cr ho hX]) (fun y hy=>?_) fun y hy=>?_
 ·obtain⟨j,hj⟩:=List.getElem?_of_mem hy
  rw[List.getElem?_drop]at hj
  rcases hu with h|⟨y0,h1,h2⟩
  ·have:=(List.getElem?_eq_some_iff.1 hj).1;omega
  ·exact ho.CP h2 (hX.kg ho (Nat.le_add_right _ _) h1 hj)
 ·obtain⟨j,hj⟩:=List.getElem?_of_mem hy
  have hj':=(List.getElem?_eq_some_iff.1 hj).1
  simp only[List.length_take]at hj'
  rw[List.getElem?_take,if_pos (by omega)]at hj
  rcases hl with h|⟨y0,h1,h2⟩
  ·omega
  ·exact ho.le_trans (hX.kg ho (show j≤s-1 by omega) hj h1) h2
def z8(lt:α→α→Bool)(s:Nat)(l:List α):Prop:=∀k,au lt ((l.drop (k* s)).take s)
theorem z8.all{s:Nat}{l:List α}(h:z8 lt s l)(hs:l.length≤s):au lt l:=by
 have:=h 0
 rwa[Nat.zero_mul,List.drop_zero,List.take_of_length_le hs]at this
end St
end Go.Proofs.YtggohfhfocgilaaGreat
namespace Go.Proofs.YtggohfhfocgilaaGreat
open Go.Proofs.YtggohfhfocgilaaGreatAw Go.RowKit
namespace SR
def aH(H:aa)(id ag:Nat)(L:List (List ak)):aa:=H.set id (.arr 136 1 ag (L.map cS))
theorem cf{H:aa}{id:Nat}(h:id<H.length)(ag:Nat)(L:List (List ak)):(aH H id ag L)[id]?=some (.arr 136 1 ag (L.map cS)):=by simp[aH,h]
theorem dT(H:aa)(id ag:Nat)(L:List (List ak))(v:Nat)(es:List (List D)):(aH H id ag L).set id (.arr 136 1 v es)=H.set id (.arr 136 1 v es):=by simp[aH]
theorem dp(H:aa)(id ag:Nat)(L:List (List ak)):H.set id (.arr 136 1 ag (L.map cS))=aH H id ag L:=rfl
theorem aD{L:List (List ak)}{i:Nat}{x:(List ak)}(h:L[i]?=some x):(L.map cS)[i]?=some (cS x):=by simp[h]
theorem b8(L:List (List ak))(i:Nat)(x:(List ak)):(L.map cS).set i (cS x)=(L.set i x).map cS:=by simp[List.map_set]
theorem get_at{A B:List (List ak)}{x:(List ak)}{n:Nat}(h:A.length=n):(A++x::B)[n]?=some x:=by subst h;simp
theorem cg{A B:List (List ak)}{x y:(List ak)}{n:Nat}(h:A.length=n):(A++x::B).set n y=A++y::B:=by subst h;simp
def mN(P X M Y Q:List (List ak))(k:Nat):List (List ak):=P++Y.take k++(X.drop k++M++X.take k++(Y.drop k++Q))
theorem oi(P X M Y Q:List (List ak)):mN P X M Y Q 0=P++X++M++Y++Q:=by simp[mN]
theorem qQ(P X M Y Q:List (List ak))(n:Nat)(h1:X.length=n)(h2:Y.length=n):mN P X M Y Q n=P++Y++M++X++Q:=by
 unfold mN
 rw[List.take_of_length_le (by omega),List.drop_of_length_le (by omega),List.take_of_length_le (by omega),List.drop_of_length_le (by omega)]
 simp
theorem nw(P X M Y Q:List (List ak))(k:Nat)(hk:k<X.length)(h:X.length=Y.length):∃x y,(mN P X M Y Q k)[P.length+k]?=some x∧(mN P X M Y Q k)[P.length+X.length+M.length+k]?=some y∧
  ((mN P X M Y Q k).set (P.length+k) y).set (P.length+X.length+M.length+k) x=mN P X M Y Q (k+1):=by
 have hk2:k<Y.length:=by omega
 have e1:X.drop k=X[k]::X.drop (k+1):=List.drop_eq_getElem_cons hk
 have e2:Y.drop k=Y[k]::Y.drop (k+1):=List.drop_eq_getElem_cons hk2
 have e3:X.take (k+1)=X.take k++[X[k]]:=List.take_succ_eq_append_getElem hk
 have e4:Y.take (k+1)=Y.take k++[Y[k]]:=List.take_succ_eq_append_getElem hk2
 have l1:(P++Y.take k).length=P.length+k:=by simp;omega
 have l2:(X.drop (k+1)).length=X.length-(k+1):=by simp
 have l3:(X.take k).length=k:=by simp;omega
 unfold mN
 rw[e1,e2,e3,e4]
 generalize X[k]=x
 generalize Y[k]=y
 generalize X.drop (k+1)=X1 at*
 generalize Y.drop (k+1)=Y1 at*
 generalize X.take k=X0 at*
 generalize Y.take k=Y0 at*
 have a1:P++Y0++(x::X1++M++X0++(y::Y1++Q))=(P++Y0)++x::(X1++M++X0++(y::Y1++Q)):=by simp
 have a2:P++Y0++(x::X1++M++X0++(y::Y1++Q))=(P++Y0++x::X1++M++X0)++y::(Y1++Q):=by simp
 have a3:(P++Y0)++y::(X1++M++X0++(y::Y1++Q))=(P++Y0++y::X1++M++X0)++y::(Y1++Q):=by simp
 refine⟨x,y,?_,?_,?_⟩
 ·rw[a1];exact get_at l1
 ·rw[a2]
  refine get_at ?_
  simp only[List.length_append,List.length_cons,l2,l3]at*
  omega
 ·rw[a1,cg l1,a3,cg (by simp only[List.length_append,List.length_cons,l2,l3]at*;omega)]
  simp
theorem fj(H:aa)(id ag:Nat)(hid:id<H.length)(g:FuncId)(caps:List AV)(P X M Y Q:List (List ak))(a b n m:Nat)(ha:P.length=a)(hn:X.length=n)(hy:Y.length=n)(hb:P.length+X.length+M.length=b)
  (hm:(P++X++M++Y++Q).length=m) (hbig:m≤1000000000000):
  ah Tryz.prog 248 [.sl id ag 0 m,iA a,iA b,iA n,.fn g caps] (aH H id ag (P++X++M++Y++Q)) (.ok (.bq [])) (aH H id ag (P++Y++M++X++Q)):=by
 have hml:P.length+X.length+M.length+Y.length+Q.length=m:=by rw[←hm];simp;omega
 generalize hE:aH H id ag (P++Y++M++X++Q)=E
 generalize hE0:aH H id ag (P++X++M++Y++Q)=E0
 refine ah.aj (hint:=(fun _=>false)) Tryz.func248 (by kernel_rfl) rfl [] (by kernel_rfl) (by decide) (by simp[Tryz.ntmps248]) ?_
 rw[Tryz.ntmps248]
 simp -implicitDefEqProofs only[go_sem]
 refine aP (fun k s H'=>H'=aH H id ag (mN P X M Y Q k)∧s 0= .sl id ag 0 m∧s 1=iA a∧s 2=iA b∧s 3=iA n∧s 10=iA k) n (by omega) (an.refl _ _) ?_ ?_ ?_
 ·refine⟨by rw[oi,hE0],?_⟩
  simp -implicitDefEqProofs only[↓reduceIte,go_sem,Nat.reduceLT,Nat.reduceEqDiff,reduceCtorEq]
 ·rintro k s H' hk hw ⟨rfl,t0,t1,t2,t3,t10⟩
  obtain⟨x,y,hx,hy2,hst⟩:=nw P X M Y Q k (by omega) (by omega)
  rw[hb]at hy2 hst
  rw[ha]at hx hst
  obtain⟨i,hi⟩:∃i,i=a+k:=⟨_,rfl⟩
  obtain⟨j,hj⟩:∃j,j=b+k:=⟨_,rfl⟩
  have w1:IntKind.i64.wrap ((a:Int)+(k:Int))=(i:Int):=by rw[wrap64_in _ (by omega) (by omega)];omega
  have w2:IntKind.i64.wrap ((b:Int)+(k:Int))=(j:Int):=by rw[wrap64_in _ (by omega) (by omega)];omega
  rw[←hi]at hx hst
  rw[←hj]at hy2 hst
  have hil:i<m:=by omega
  have hjl:j<m:=by omega
  generalize mN P X M Y Q k=L at*
  generalize mN P X M Y Q (k+1)=L' at*
  have gx:=aD hx
  have gy:=aD hy2
  have gh:=cf hid ag L
  have s1:=b8 L i y
  have s2:=b8 (L.set i y) j x
  rw[hst]at s2
  have gy2:((L.set i y).map cS)[j]?=some (cS y):=by
   refine aD ?_
   rw[List.getElem?_set]
   by_cases hij:i=j
   ·omega
   ·rw[if_neg hij];exact hy2
  simp only[cS]at gx gy gy2 s1 s2
  simp -implicitDefEqProofs only[↓reduceIte,go_sem,Nat.reduceLT,Nat.reduceEqDiff,t3,t10,hk]
  refine dE [false,false,false,false,false,false,false,false,false,false,false,false,false,false,false,false,false,false,false,false,true,true,true,true] 20 K.mixed (by kernel_rfl) (by kernel_rfl) (by kernel_rfl) ?_
  simp -implicitDefEqProofs only[↓reduceIte,go_sem,ae,aw,Nat.reduceLT,Nat.reduceEqDiff,reduceCtorEq,t0,t1,t2,t10,w1,w2,hil,hjl,gh,gx,gy,dT,s1,s2,gy2,hid,List.getElem?_set_self,List.set_set]
  refine cO.same ⟨by rw[←dp],?_⟩
  simp -implicitDefEqProofs only[↓reduceIte,go_sem,Nat.reduceLT,Nat.reduceEqDiff,reduceCtorEq,t0,t1,t2,t3,hw]
 ·rintro s H' ⟨rfl,t0,t1,t2,t3,t10⟩
  simp -implicitDefEqProofs only[↓reduceIte,go_sem,Nat.reduceLT,Nat.reduceEqDiff,t3,t10]
  rw[qQ _ _ _ _ _ n hn hy,hE]
  exact⟨_,an.refl _ _,rfl⟩
theorem cQ(H:aa)(id ag:Nat)(hid:id<H.length)(g:FuncId)(caps:List AV)(P X M Y Q L L':List (List ak))(a b n m:Nat)(hL:L=P++X++M++Y++Q)(hL':L'=P++Y++M++X++Q)(ha:P.length=a)(hn:X.length=n)(hy:Y.length=n)(hb:P.length+X.length+M.length=b)
  (hm:L.length=m) (hbig:m≤1000000000000):
  ah Tryz.prog 248 [.sl id ag 0 m,iA a,iA b,iA n,.fn g caps] (aH H id ag L) (.ok (.bq [])) (aH H id ag L'):=by
 subst hL hL'
 exact fj H id ag hid g caps P X M Y Q a b n m ha hn hy hb hm hbig
end SR
end Go.Proofs.YtggohfhfocgilaaGreat
namespace Go.Proofs.YtggohfhfocgilaaGreat
open Go.Proofs.YtggohfhfocgilaaGreatAw Go.RowKit
namespace SR
structure D7 where
 L:List (List ak)
 P:List (List ak)
 U:List (List ak)
 V:List (List ak)
 Q:List (List ak)
theorem ja(H:aa)(id ag:Nat)(hid:id<H.length)(g:FuncId)(caps:List AV)(P U V Q L T:List (List ak))(hL:L=P++U++V++Q)(hT:T=P++V++U++Q)(a m b n:Nat)(ha:P.length=a)(hm:P.length+U.length=m)(hb:P.length+U.length+V.length=b)(hU:0<U.length)(hV:0<V.length)
  (hn:L.length=n) (hbig:n≤1000000000000):
  ah Tryz.prog 221 [.sl id ag 0 n,iA a,iA m,iA b,.fn g caps] (aH H id ag L) (.ok (.bq [])) (aH H id ag T):=by
 have hnl:P.length+U.length+V.length+Q.length=n:=by rw[←hn,hL];simp;omega
 generalize hE0:aH H id ag L=E0
 have w1:IntKind.i64.wrap ((m:Int)-(a:Int))=((U.length:Nat):Int):=by rw[wrap64_in _ (by omega) (by omega)];omega
 have w2:IntKind.i64.wrap ((b:Int)-(m:Int))=((V.length:Nat):Int):=by rw[wrap64_in _ (by omega) (by omega)];omega
 refine ah.aj (hint:=(fun _=>false)) Tryz.func221 (by kernel_rfl) rfl [] (by kernel_rfl) (by decide) (by simp[Tryz.ntmps221]) ?_
 rw[Tryz.ntmps221]
 simp -implicitDefEqProofs only[↓reduceIte,go_sem,Nat.reduceLT,Nat.reduceEqDiff,w1,w2]
 refine br _ _ _ _ (fun(x:D7) s H'=>H'=aH H id ag x.L∧x.L=x.P++x.U++x.V++x.Q∧T=x.P++x.V++x.U++x.Q∧x.P.length+x.U.length=m∧0<x.U.length∧0<x.V.length∧x.L.length=n∧
   s 0= .sl id ag 0 n∧s 2=iA m∧s 4= .fn g caps∧s 10=iA x.U.length∧s 11=iA x.V.length) (fun x=>x.U.length+x.V.length) ⟨L,P,U,V,Q⟩ (an.refl _ _) ?_ ?_
 ·refine⟨hE0.symm,hL,hT,hm,hU,hV,hn,?_⟩
  simp -implicitDefEqProofs only[↓reduceIte,go_sem,Nat.reduceLT,Nat.reduceEqDiff,reduceCtorEq]
 ·rintro⟨L',P',U',V',Q'⟩ s H' ⟨rfl,hL',hT',hm',hU',hV',hn',t0,t2,t4,t10,t11⟩
  simp only at hL' hT' hm' hU' hV' hn' t0 t2 t4 t10 t11
  have hnl':P'.length+U'.length+V'.length+Q'.length=n:=by rw[←hn',hL'];simp;omega
  have w3:IntKind.i64.wrap ((m:Int)-(U'.length:Int))=((P'.length:Nat):Int):=by rw[wrap64_in _ (by omega) (by omega)];omega
  by_cases hij:U'.length=V'.length
  ·have hij':(((U'.length:Nat):Int) !=((V'.length:Nat):Int))=false:=by simp[hij]
   simp -implicitDefEqProofs only[↓reduceIte,go_sem,Nat.reduceLT,Nat.reduceEqDiff,reduceCtorEq,t10,t11,hij']
   simp -implicitDefEqProofs only[↓reduceIte,go_sem,Nat.reduceLT,Nat.reduceEqDiff,t0,t2,t4,t10,w3]
   refine ab.ok (cQ H id ag hid g caps P' U' [] V' Q' L' T P'.length m U'.length n (by rw[hL'];simp) (by rw[hT'];simp) rfl rfl (by omega) (by simp;omega) hn' hbig) ?_
   simp -implicitDefEqProofs only[go_sem]
   exact⟨_,an.refl _ _,rfl⟩
  ·have hij':(((U'.length:Nat):Int) !=((V'.length:Nat):Int))=true:=by simp;omega
   by_cases hgt:V'.length<U'.length
   ·have hgt':(((V'.length:Nat):Int)<((U'.length:Nat):Int))=True:=eq_true (by omega)
    have e1:U'.take V'.length++U'.drop V'.length=U':=List.take_append_drop _ _
    have l1:(U'.take V'.length).length=V'.length:=by simp;omega
    have l2:(U'.drop V'.length).length=U'.length-V'.length:=by simp
    generalize U'.take V'.length=X at*
    generalize U'.drop V'.length=Y at*
    have e2:=congrArg List.length e1
    simp only[List.length_append]at e2
    have w4:IntKind.i64.wrap (U'.length-(V'.length:Int))=((Y.length:Nat):Int):=by rw[wrap64_in _ (by omega) (by omega)];omega
    obtain⟨L2,hL2⟩:∃L2,L2=P'++V'++Y++X++Q':=⟨_,rfl⟩
    have hl2:L2.length=n:=by rw[hL2];simp only[List.length_append]at*;omega
    simp -implicitDefEqProofs only[↓reduceIte,go_sem,Nat.reduceLT,Nat.reduceEqDiff,reduceCtorEq,t10,t11,hij',hgt']
    simp -implicitDefEqProofs only[↓reduceIte,go_sem,Nat.reduceLT,Nat.reduceEqDiff,t0,t2,t4,t11,w3]
    refine ab.ok (cQ H id ag hid g caps P' X Y V' Q' L' L2 P'.length m V'.length n (by rw[hL',←e1];simp) hL2 rfl l1 rfl (by omega) hn' hbig) ?_
    simp -implicitDefEqProofs only[↓reduceIte,go_sem,Nat.reduceLT,Nat.reduceEqDiff,t10,t11,w4]
    refine⟨_,_,⟨L2,P'++V',Y,X,Q'⟩,an.refl _ _,⟨rfl,by rw[hL2];simp,by rw[hT',←e1];simp,?_,?_,?_,hl2,?_⟩,?_⟩
    ·simp only[List.length_append];omega
    ·simp only;omega
    ·simp only;omega
    ·simp -implicitDefEqProofs only[↓reduceIte,go_sem,Nat.reduceLT,Nat.reduceEqDiff,reduceCtorEq,t0,t2,t4,t11,l1]
    ·simp only;omega
   ·have hgt':(((V'.length:Nat):Int)<((U'.length:Nat):Int))=False:=eq_false (by omega)
    have e1:V'.take (V'.length-U'.length)++V'.drop (V'.length-U'.length)=V':=List.take_append_drop _ _
    have l1:(V'.take (V'.length-U'.length)).length=V'.length-U'.length:=by simp
    have l2:(V'.drop (V'.length-U'.length)).length=U'.length:=by simp;omega
    generalize V'.take (V'.length-U'.length)=Y at*
    generalize V'.drop (V'.length-U'.length)=Z at*
    have e2:=congrArg List.length e1
    simp only[List.length_append]at e2
    have w4:IntKind.i64.wrap (V'.length-(U'.length:Int))=((Y.length:Nat):Int):=by rw[wrap64_in _ (by omega) (by omega)];omega
    have w5:IntKind.i64.wrap ((m:Int)+(V'.length:Int))=(m:Int)+(V'.length:Int):=by rw[wrap64_in _ (by omega) (by omega)]
    have w6:IntKind.i64.wrap ((m:Int)+(V'.length:Int)-(U'.length:Int))=((m+Y.length:Nat):Int):=by rw[wrap64_in _ (by omega) (by omega)];omega
    obtain⟨L2,hL2⟩:∃L2,L2=P'++Z++Y++U'++Q':=⟨_,rfl⟩
    have hl2':L2.length=n:=by rw[hL2];simp only[List.length_append]at*;omega
    simp -implicitDefEqProofs only[↓reduceIte,go_sem,Nat.reduceLT,Nat.reduceEqDiff,reduceCtorEq,t10,t11,hij',hgt']
    simp -implicitDefEqProofs only[↓reduceIte,go_sem,Nat.reduceLT,Nat.reduceEqDiff,t0,t2,t4,t10,t11,w3,w5,w6]
    refine ab.ok (cQ H id ag hid g caps P' U' Y Z Q' L' L2 P'.length (m+Y.length) U'.length n (by rw[hL',←e1];simp) hL2 rfl rfl l2 (by omega) hn' hbig) ?_
    simp -implicitDefEqProofs only[↓reduceIte,go_sem,Nat.reduceLT,Nat.reduceEqDiff,t10,t11,w4]
    refine⟨_,_,⟨L2,P',Z,Y,U'++Q'⟩,an.refl _ _,⟨rfl,by rw[hL2];simp,by rw[hT',←e1];simp,?_,?_,?_,hl2',?_⟩,?_⟩
    ·simp only;omega
    ·simp only;omega
    ·simp only;omega
    ·simp -implicitDefEqProofs only[↓reduceIte,go_sem,Nat.reduceLT,Nat.reduceEqDiff,reduceCtorEq,t0,t2,t4,t10,l2]
    ·simp only;omega
end SR
end Go.Proofs.YtggohfhfocgilaaGreat
namespace Go.Proofs.YtggohfhfocgilaaGreat
open Go.Proofs.YtggohfhfocgilaaGreatAw Go.RowKit
namespace SR
def aW(c:(List ak)→(List ak)→Int)(x y:(List ak)):Bool:=decide (c x y<0)
def dJ(g:FuncId)(caps:List AV)(c:(List ak)→(List ak)→Int)(H:aa)(id:Nat):Prop:=∀(o:aA) (x y:(List ak)),ah Tryz.prog g ([.d (.list false (x.map ak.enc)),.d (.list false (y.map ak.enc))]++caps) (H.set id o) (.ok (iA (c x y))) (H.set id o)
theorem dJ.at{g:FuncId}{caps:List AV}{c:(List ak)→(List ak)→Int}{H:aa}{id:Nat}(h:dJ g caps c H id)(ag:Nat)(L:List (List ak))(x y:(List ak)):ah Tryz.prog g ([.d (.list false (x.map ak.enc)),.d (.list false (y.map ak.enc))]++caps) (aH H id ag L) (.ok (iA (c x y))) (aH H id ag L):=h _ x y
structure Eg where
 L:List (List ak)
 A:List (List ak)
 B:List (List ak)
theorem dS(H:aa)(id ag:Nat)(hid:id<H.length)(g:FuncId)(caps:List AV)(c:(List ak)→(List ak)→Int)(ho:St.Ord (aW c))(hc:dJ g caps c H id)(P X Q L L':List (List ak))(hL:L=P++X++Q)(hL':L'=P++St.aG (aW c) X++Q)(a b n:Nat)(ha:P.length=a)(hb:P.length+X.length=b)
  (hn:L.length=n) (hbig:n≤1000000000000):
  ah Tryz.prog 183 [.sl id ag 0 n,iA a,iA b,.fn g caps] (aH H id ag L) (.ok (.bq [])) (aH H id ag L'):=by
 have hnl:P.length+X.length+Q.length=n:=by rw[←hn,hL];simp;omega
 generalize hE0:aH H id ag L=E0
 have w1:IntKind.i64.wrap ((a:Int)+1)=(a:Int)+1:=wrap64_in _ (by omega) (by omega)
 refine ah.aj (hint:=(fun _=>false)) Tryz.func183 (by kernel_rfl) rfl [] (by kernel_rfl) (by decide) (by simp[Tryz.ntmps183]) ?_
 rw[Tryz.ntmps183]
 simp -implicitDefEqProofs only[↓reduceIte,go_sem,Nat.reduceLT,w1]
 refine aP (fun k s H'=>(∃Lk,H'=aH H id ag Lk∧Lk=P++(St.aG (aW c) (X.take (k+1))++(X.drop (k+1)++Q)))∧s 0= .sl id ag 0 n∧s 1=iA a∧s 2=iA b∧s 3= .fn g caps∧s 8=iA ((a:Int)+1+(k:Int))) (X.length-1) (by omega) (an.refl _ _) ?_ ?_ ?_
 ·refine⟨⟨L,hE0.symm,?_⟩,?_⟩
  ·have:St.aG (aW c) (X.take 1)=X.take 1:=by cases X<;>rfl
   rw[hL,this,←List.append_assoc (X.take 1),List.take_append_drop,List.append_assoc]
  ·simp -implicitDefEqProofs only[↓reduceIte,go_sem,Nat.reduceLT,Nat.reduceEqDiff,reduceCtorEq,Int.add_zero]
 ·rintro k s H' hk hw ⟨⟨Lk,rfl,hLk⟩,t0,t1,t2,t3,t8⟩
  have hkx:k+1<X.length:=by omega
  have e1:X.drop (k+1)=X[k+1]::X.drop (k+1+1):=List.drop_eq_getElem_cons hkx
  have e2:X.take (k+1+1)=X.take (k+1)++[X[k+1]]:=List.take_succ_eq_append_getElem hkx
  have hSl:=St.aX (lt:=aW c) (X.take (k+1))
  have hXl:(X.take (k+1)).length=k+1:=by simp;omega
  have hRl:(X.drop (k+1+1)).length=X.length-(k+2):=by simp
  rw[e1]at hLk
  rw[e2]
  have hlt:((a:Int)+1+(k:Int)<(b:Int))=True:=eq_true (by omega)
  have hss:=St.cc ho (X.take (k+1))
  generalize X[k+1]=x at*
  generalize X.drop (k+1+1)=R0 at*
  generalize X.take (k+1)=X0 at*
  generalize hS:St.aG (aW c) X0=S at*
  simp -implicitDefEqProofs only[↓reduceIte,go_sem,Nat.reduceLT,Nat.reduceEqDiff,t2,t8,hlt]
  refine br _ _ _ _ (fun(z:Eg) s H'=>H'=aH H id ag z.L∧z.L=P++z.A++x::(z.B++(R0++Q))∧z.A++z.B=S∧(∀y∈z.B,aW c x y=true)∧s 0= .sl id ag 0 n∧s 1=iA a∧s 2=iA b∧s 3= .fn g caps∧s 8=iA ((a:Int)+1+(k:Int))∧s 9=iA ((a+z.A.length:Nat):Int)) (fun z=>z.A.length) ⟨Lk,S,[]⟩ (an.refl _ _) ?_ ?_
  ·refine⟨rfl,by rw[hLk];simp,by simp,by simp,?_⟩
   simp -implicitDefEqProofs only[↓reduceIte,go_sem,Nat.reduceLT,Nat.reduceEqDiff,reduceCtorEq,t0,t1,t2,t3,t8,show((a:Int)+1+(k:Int))=((a+S.length:Nat):Int) by omega]
  ·rintro⟨L1,A,B⟩ s H' ⟨rfl,hL1,hAB,hB,t0,t1,t2,t3,t8,t9⟩
   simp only at hL1 hAB hB t0 t1 t2 t3 t8 t9
   have hABl:A.length+B.length=k+1:=by rw[←List.length_append,hAB,hSl,hXl]
   have hL1n:L1.length=n:=by rw[hL1];simp;omega
   have fin:(∀y∈A,aW c x y=false)→L1=P++(St.aG (aW c) (X0++[x])++(R0++Q)):=fun hA=>by
    rw[hL1,←St.insert_eq ho (hAB.trans hS.symm) hB hA];simp
   obtain⟨j,hj⟩:∃j,j=a+A.length:=⟨_,rfl⟩
   rw[←hj]at t9
   have hw8:IntKind.i64.wrap ((a:Int)+1+(k:Int)+1)=(a:Int)+1+((k:Int)+1):=by rw[wrap64_in _ (by omega) (by omega)];omega
   rcases List.eq_nil_or_concat A with rfl|⟨A',z,rfl⟩
   ·have hja:((a:Int)<(j:Int))=False:=eq_false (by simp at hj;omega)
    simp -implicitDefEqProofs only[go_sem]
    refine aR K.mixed (by kernel_rfl) ?_
    simp -implicitDefEqProofs only[↓reduceIte,go_sem,Nat.reduceLT,Nat.reduceEqDiff,reduceCtorEq,t1,t9,hja,t8,hw8]
    refine cO.same ⟨⟨L1,rfl,fin (by simp)⟩,?_⟩
    simp -implicitDefEqProofs only[↓reduceIte,go_sem,Nat.reduceLT,Nat.reduceEqDiff,reduceCtorEq,t0,t1,t2,t3]
   ·simp only[List.concat_eq_append,List.length_append,List.length_singleton]at hL1 hAB hj hABl fin
    have hja:((a:Int)<(j:Int))=True:=eq_true (by omega)
    obtain⟨i,hi⟩:∃i,i=a+A'.length:=⟨_,rfl⟩
    have hw9:IntKind.i64.wrap ((j:Int)-1)=(i:Int):=by rw[wrap64_in _ (by omega) (by omega)];omega
    have hL1':L1=(P++A')++z::(x::(B++(R0++Q))):=by rw[hL1];simp
    have hL1'':L1=(P++A'++[z])++x::(B++(R0++Q)):=by rw[hL1];simp
    have gz:L1[i]?=some z:=by rw[hL1'];exact get_at (by simp;omega)
    have gx:L1[j]?=some x:=by rw[hL1''];exact get_at (by simp;omega)
    have il:i<n:=by omega
    have jl:j<n:=by omega
    have st:(L1.set j z).set i x=P++A'++x::(z::B++(R0++Q)):=by
     rw[hL1'',cg (by simp;omega)]
     have:P++A'++[z]++z::(B++(R0++Q))=(P++A')++z::(z::(B++(R0++Q))):=by simp
     rw[this,cg (by simp;omega)]
     simp
    have gz':=aD gz
    have gx':=aD gx
    have gz2:((L1.set j z).map cS)[i]?=some (cS z):=by
     refine aD ?_
     rw[List.getElem?_set,if_neg (by omega)];exact gz
    have s1:=b8 L1 j z
    have s2:=b8 (L1.set j z) i x
    rw[st]at s2
    have gh:=cf hid ag L1
    have hd:=hc.at ag L1 x z
    simp only[cS]at gz' gx' gz2 s1 s2
    try simp only[cS,List.map_cons,List.map_nil]at hd
    simp -implicitDefEqProofs only[go_sem]
    refine aR K.mixed (by kernel_rfl) ?_
    simp -implicitDefEqProofs only[↓reduceIte,go_sem,ae,Nat.reduceLT,Nat.reduceEqDiff,reduceCtorEq,t0,t1,t3,t9,hja,hw9,il,jl,gh,gz',gx']
    refine ab.ok hd ?_
    by_cases hlt2:c x z<0
    ·have hltb:aW c x z=true:=by simp[aW,hlt2]
     simp -implicitDefEqProofs only[↓reduceIte,go_sem,Nat.reduceLT,Nat.reduceEqDiff,hlt2]
     refine dE [false,false,false,false,false,false,false,false,false,false,false,false,false,false,true,true,true,true] 14 K.mixed (by kernel_rfl) (by kernel_rfl) (by kernel_rfl) ?_
     simp -implicitDefEqProofs only[↓reduceIte,go_sem,ae,aw,Nat.reduceLT,Nat.reduceEqDiff,reduceCtorEq,t0,t9,hw9,il,jl,gh,gz',gx',dT,s1,gz2,s2,hid,List.getElem?_set_self,List.set_set]
     refine⟨_,_,⟨_,A',z::B⟩,an.refl _ _,⟨by rw[←dp],rfl,by rw[←hAB];simp,?_,?_⟩,by simp⟩
     ·intro y hy
      rcases List.mem_cons.1 hy with rfl|hy
      ·exact hltb
      ·exact hB y hy
     ·simp -implicitDefEqProofs only[↓reduceIte,go_sem,Nat.reduceLT,Nat.reduceEqDiff,reduceCtorEq,t0,t1,t2,t3,t8,show((a:Int)+(A'.length:Int))=(i:Int) by omega]
    ·have hltb:aW c x z=false:=by simp[aW,hlt2]
     have hAx:∀y∈A'++[z],aW c x y=false:=by
      intro y hy
      have hso:=hss
      rw[←hAB]at hso
      rcases List.mem_append.1 hy with hy|hy
      ·exact ho.le_trans (hso.left.sf y hy z (by simp)) hltb
      ·simp at hy;rw[hy];exact hltb
     simp -implicitDefEqProofs only[↓reduceIte,go_sem,Nat.reduceLT,Nat.reduceEqDiff,hlt2,t8,hw8]
     refine cO.same ⟨⟨L1,rfl,fin hAx⟩,?_⟩
     simp -implicitDefEqProofs only[↓reduceIte,go_sem,Nat.reduceLT,Nat.reduceEqDiff,reduceCtorEq,t0,t1,t2,t3]
 ·rintro s H' ⟨⟨Lk,rfl,hLk⟩,t0,t1,t2,t3,t8⟩
  have hlt:((a:Int)+1+((X.length-1:Nat):Int)<(b:Int))=False:=eq_false (by omega)
  simp -implicitDefEqProofs only[↓reduceIte,go_sem,Nat.reduceLT,Nat.reduceEqDiff,t2,t8,hlt]
  have:Lk=L':=by
   rw[hLk,hL',List.take_of_length_le (by omega),List.drop_of_length_le (by omega)];simp
  rw[this]
  exact⟨_,an.refl _ _,rfl⟩
end SR
end Go.Proofs.YtggohfhfocgilaaGreat
namespace Go.Proofs.YtggohfhfocgilaaGreat
open Go.Proofs.YtggohfhfocgilaaGreatAw Go.RowKit
theorem sG(n k:Nat)(h:k≤64):j5 .u64 (n:Int) (k:Int)=((n/2^k:Nat):Int):=by
 have:min k 64=k:=by omega
 simp only[j5,IntKind.bits,Int.toNat_natCast,this]
 rw[Int.fdiv_eq_ediv_of_nonneg _ (by exact_mod_cast Nat.zero_le _)]
 norm_cast
theorem rl(n:Nat)(h:n<256):IntKind.u8.wrap (n:Int)=n:=p7 _ (by omega) (by omega)
theorem qE(k:IntKind)(a b:Nat)(ha:a<2^k.bits)(hb:b<2^k.bits):Ev k (a:Int) (b:Int)=((a|||b:Nat):Int):=by
 simp[Ev,BitVec.toNat_or,BitVec.ofInt_natCast,Nat.mod_eq_of_lt ha,Nat.mod_eq_of_lt hb]
theorem zF(k:IntKind)(a b:Nat)(ha:a<2^k.bits)(hb:b<2^k.bits):z7 k (a:Int) (b:Int)=((a&&&b:Nat):Int):=by
 simp[z7,BitVec.toNat_and,BitVec.ofInt_natCast,Nat.mod_eq_of_lt ha,Nat.mod_eq_of_lt hb]
theorem cM(n:Nat)(h:n<18446744073709551616):IntKind.u64.wrap (n:Int)=n:=bu _ (by omega) (by omega)
theorem lG(n:Nat):IntKind.u8.wrap (n:Int)=((n%256:Nat):Int):=by simp[IntKind.wrap,IntKind.signed,IntKind.bits]
theorem zE(n:Nat)(h:n≤1000000000000):IntKind.i64.wrap (n:Int)=(n:Int):=wrap64_in _ (by omega) (by omega)
end Go.Proofs.YtggohfhfocgilaaGreat
