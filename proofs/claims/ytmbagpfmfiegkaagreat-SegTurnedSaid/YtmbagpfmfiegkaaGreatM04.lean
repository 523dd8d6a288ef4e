/- Three-way comparing functions: what they have in common; val.Compare is one. Neighbours that are alike, each once: in plain Lean. What is sorted, each once: in plain Lean. The document's Compare (layers 4 and 5): what it does: the same as val.Compare. The reference's Below (layer 9): what it does. dict.Below, dict.Codes, and the reference's: what they do. dict.Codes, the reference's place and Codes: what they do. slices.Clone over Val: what it does. slices' swapRange, rotate, insertion sort over Val: what they do. slices' rotate over Val: what it does. slices' insertion sort over Val: what it does. slices' symMerge over Val: what it does. slices' symMerge over Val, the general case: what it does. Blocks that are sorted one by one. slices.SortStableFunc over Val: what it does. slices.CompactFunc over Val: what it does. Arguments of the laws, as Lean's data. dict.Words, the laws' few and shown: what they do. Words, codes and places: in plain Lean. dict.width, dict.Bytes: what they do. plain.Of of nothing, dict.used: what they do. Functions that defer a call; deferred functions that recover. leb.Get, leb.Zag: what they do. bits.From, Left, Get, Unpack: what they do. bits.Unpack: what it does. What numbers of bytes come to: plain facts. leb.ToText: what it does. flt.Bits, val.float, val.Of: what they do. val.Of: what it does. dict.read: what it does. plain.Bytes, plain.Of: what they do. The document's Same for values. -/
import Derived.Recover
import Derived.Test.YtmbagpfmfiegkaaGreatM03
set_option maxHeartbeats 8000000
set_option maxRecDepth 100000
set_option linter.all false
namespace Go.Proofs.YtmbagpfmfiegkaaGreat
open Go.Proofs.YtmbagpfmfiegkaaGreatAw Go.RowKit
structure lv {α:Type} (c:α→α→Int):Prop where
 ff:∀x y,c x y<0↔0<c y x
 cK:∀x y z,c x z<0→c x y<0∨c y z<0
def oS{α:Type}(c:α→α→Int)(x y:α):Bool:=decide (c x y<0)
theorem lv.ord{α:Type}{c:α→α→Int}(h:lv c):St.Ord (oS c)where
 wx x y hx:=by
  simp only[oS,decide_eq_true_eq,decide_eq_false_iff_not]at hx⊢
  have:=(h.ff x y).1 hx
  omega
 cK x y z hx:=by
  simp only[oS,decide_eq_true_eq]at hx⊢
  exact h.cK x y z hx
theorem lv.zero{α:Type}{c:α→α→Int}(h:lv c)(x y:α):c x y=0↔c y x=0:=by
 have h1:=h.ff x y
 have h2:=h.ff y x
 omega
theorem lv.self{α:Type}{c:α→α→Int}(h:lv c)(x:α):c x x=0:=by
 have h1:=h.ff x x
 omega
theorem lv.le_trans{α:Type}{c:α→α→Int}(h:lv c){x y z:α}(h1:c x y≤0)(h2:c y z≤0):c x z≤0:=by
 have a1:=h.ff y x
 have a2:=h.ff z y
 have a3:=h.ff z x
 have:=h.cK z y x
 omega
theorem lv.gS{α:Type}{c:α→α→Int}(h:lv c){x y z:α}(h1:c x y=0)(h2:c y z=0):c x z=0:=by
 have a1:=h.le_trans (x:=x) (y:=y) (z:=z) (by omega) (by omega)
 have a2:=h.le_trans (x:=z) (y:=y) (z:=x) (by have:=(h.zero y z).1 h2;omega) (by have:=(h.zero x y).1 h1;omega)
 have a3:=h.ff x z
 have a4:=h.ff z x
 omega
theorem lv.lex{α:Type}{c d e:α→α→Int}(h:lv c)(h1:∀x y,c x y≠0→e x y=c x y)(h2:∀x y,c x y=0→e x y=d x y)(da:∀x y,c x y=0→(d x y<0↔0<d y x))(dn:∀x y z,c x y=0→c y z=0→d x z<0→d x y<0∨d y z<0):lv e where
 ff x y:=by
  by_cases hc:c x y=0
  ·rw[h2 x y hc,h2 y x ((h.zero x y).1 hc)]
   exact da x y hc
  ·rw[h1 x y hc,h1 y x fun h0=>hc ((h.zero x y).2 h0)]
   exact h.ff x y
 cK x y z hx:=by
  by_cases hxy:c x y=0
  ·by_cases hyz:c y z=0
   ·have hxz:=h.gS hxy hyz
    rw[h2 x z hxz]at hx
    rw[h2 x y hxy,h2 y z hyz]
    exact dn x y z hxy hyz hx
   ·have hxz:c x z≠0:=fun h0=>hyz (h.gS ((h.zero x y).1 hxy) h0)
    rw[h1 x z hxz]at hx
    rw[h1 y z hyz]
    rcases h.cK x y z hx with h3|h3
    ·omega
    ·exact .inr h3
  ·by_cases hyz:c y z=0
   ·have hxz:c x z≠0:=fun h0=>hxy (h.gS h0 ((h.zero y z).1 hyz))
    rw[h1 x z hxz]at hx
    rw[h1 x y hxy]
    rcases h.cK x y z hx with h3|h3
    ·exact .inl h3
    ·omega
   ·rw[h1 x y hxy,h1 y z hyz]
    by_cases hxz:c x z=0
    ·have a1:=h.ff x y
     have a2:=h.ff y x
     have a3:=h.ff y z
     have a4:=h.ff z y
     have n1:=h.cK y x z
     have n2:=h.cK y z x
     have n3:=h.cK z x y
     have z1:=(h.zero x z).1 hxz
     omega
    ·rw[h1 x z hxz]at hx
     exact h.cK x y z hx
theorem D4{α:Type}{lt:α→α→Bool}{c:α→α→Int}(ho:St.Ord lt)(h1:∀x y,lt x y=true→c x y<0)(h2:∀x y,lt x y=false→lt y x=true→0<c x y)(h3:∀x y,lt x y=false→lt y x=false→c x y=0):lv c where
 ff x y:=by
  cases hx:lt x y with
  |true=>have:=h1 x y hx;have:=h2 y x (ho.wx x y hx) hx;omega
  |false=>
   cases hy:lt y x with
   |true=>have:=h1 y x hy;have:=h2 x y hx hy;omega
   |false=>have:=h3 x y hx hy;have:=h3 y x hy hx;omega
 cK x y z hx:=by
  have hl:lt x z=true:=by
   cases e:lt x z with
   |true=>rfl
   |false=>
    cases e2:lt z x with
    |true=>have:=h2 x z e e2;omega
    |false=>have:=h3 x z e e2;omega
  rcases ho.cK x y z hl with h|h
  ·exact .inl (h1 x y h)
  ·exact .inr (h1 y z h)
theorem pL:lv ga where
 ff x y:=by
  unfold ga gm
  by_cases h1:x<y<;>by_cases h2:y<x<;>simp[h1,h2]<;>omega
 cK x y z:=by
  unfold ga gm
  by_cases h1:x<y<;>by_cases h2:y<x<;>by_cases h3:y<z<;>by_cases h4:z<y<;>by_cases h5:x<z<;>by_cases h6:z<x<;>simp[h1,h2,h3,h4,h5,h6]<;>omega
theorem iV{a b:Int}:ga a b=0↔a=b:=by
 unfold ga gm
 by_cases h1:a<b<;>by_cases h2:b<a<;>simp[h1,h2]<;>omega
theorem Fs(a b:Nat):An a b=ga (eo a) (eo b):=by
 unfold An ga gm
 simp[Int.ofNat_lt]
theorem iI:∀l:List UInt8,Op.bytesLess l l=false
 |[]=>rfl
 |a::l=>by simp[Op.bytesLess,iI l]
theorem kp:∀l m:List UInt8,Op.bytesLess l m=true→Op.bytesLess m l=false
 |_,[],h=>by simp[Op.bytesLess]at h
 |[],_::_,_=>rfl
 |a::l,b::m,h=>by
  simp only[Op.bytesLess,Bool.or_eq_true,decide_eq_true_eq,Bool.and_eq_true,beq_iff_eq]at h
  simp only[Op.bytesLess,Bool.or_eq_false_iff,decide_eq_false_iff_not,Bool.and_eq_false_iff,beq_eq_false_iff_ne]
  rcases h with h|⟨rfl,h⟩
  ·exact⟨fun h2=>UInt8.lt_asymm h h2,.inl fun e=>by subst e;exact UInt8.lt_irrefl _ h⟩
  ·exact⟨UInt8.lt_irrefl _,.inr (kp l m h)⟩
theorem iJ:∀l m:List UInt8,Op.bytesLess l m=false→Op.bytesLess m l=false→l=m
 |[],[],_,_=>rfl
 |[],_::_,h,_=>by simp[Op.bytesLess]at h
 |_::_,[],_,h=>by simp[Op.bytesLess]at h
 |a::l,b::m,h1,h2=>by
  simp only[Op.bytesLess,Bool.or_eq_false_iff,decide_eq_false_iff_not,Bool.and_eq_false_iff,beq_eq_false_iff_ne]at h1 h2
  have e:a=b:=UInt8.le_antisymm (UInt8.not_lt.1 h2.1) (UInt8.not_lt.1 h1.1)
  subst e
  rcases h1.2 with h|h
  ·exact absurd rfl h
  ·rcases h2.2 with g|g
   ·exact absurd rfl g
   ·rw[iJ l m h g]
theorem jL:∀l m n:List UInt8,Op.bytesLess l m=true→Op.bytesLess m n=true→Op.bytesLess l n=true
 |_,_,[],_,h=>by simp[Op.bytesLess]at h
 |[],_,_::_,_,_=>rfl
 |_::_,[],_::_,h,_=>by simp[Op.bytesLess]at h
 |a::l,b::m,c::n,h1,h2=>by
  simp only[Op.bytesLess,Bool.or_eq_true,decide_eq_true_eq,Bool.and_eq_true,beq_iff_eq]at h1 h2⊢
  rcases h1 with h1|⟨rfl,h1⟩
  ·rcases h2 with h2|⟨rfl,h2⟩
   ·exact .inl (UInt8.lt_trans h1 h2)
   ·exact .inl h1
  ·rcases h2 with h2|⟨rfl,h2⟩
   ·exact .inl h2
   ·exact .inr ⟨rfl,jL l m n h1 h2⟩
theorem Br:St.Ord lz where
 wx x y h:=kp _ _ h
 cK x y z h:=by
  unfold lz at*
  cases h1:Op.bytesLess x.toList y.toList with
  |true=>exact .inl rfl
  |false=>
   right
   cases h2:Op.bytesLess y.toList x.toList with
   |true=>exact jL _ _ _ h2 h
   |false=>rw[←iJ _ _ h1 h2];exact h
theorem Ed:lv nj:=by
 refine D4 Br (fun x y h=>?_) (fun x y h g=>?_) fun x y h g=>?_
 ·unfold nj gm;simp[h]
 ·unfold nj gm
  have:(x.toList==y.toList)=false:=by
   rw[beq_eq_false_iff_ne]
   intro e
   unfold lz at g
   rw[e,iI]at g;cases g
  simp[h,this]
 ·unfold nj gm
  have e:=iJ _ _ h g
  simp[h,e]
theorem AS{a b:ByteArray}:nj a b=0↔a=b:=by
 unfold nj gm
 constructor
 ·intro h
  cases h1:lz a b with
  |true=>simp[h1]at h
  |false=>
   simp only[h1,Bool.false_eq_true,if_false,Bool.false_or]at h
   cases h2:a.toList==b.toList with
   |false=>simp[h2]at h
   |true=>exact toList_inj (by simpa using h2)
 ·rintro rfl
  have:lz a a=false:=iI _
  simp[this]
def Bw(v:ai):Int:=eo (jk v.i)
theorem lv.zQ{α β:Type}{c:α→α→Int}(h:lv c)(f:β→α):lv (fun x y=>c (f x) (f y)):=⟨fun x y=>h.ff _ _,fun x y z=>h.cK _ _ _⟩
def oC(k:Int)(a b:ai):Int:=if k=1 then ga a.i b.i else if k=2 then ga (Bw a) (Bw b)else if k=3 then nj a.s b.s else 0
theorem zN(a b:ai):aO a b=if ga a.kind b.kind≠0 then ga a.kind b.kind else oC a.kind a b:=by
 unfold aO oC
 simp only[Fs,←show ∀v:ai,Bw v=eo (jk v.i)from fun _=>rfl]
 by_cases h:a.kind=b.kind
 ·simp[h,iV]
 ·simp[h,iV]
theorem Ep{α:Type}:lv (fun _ _:α=>(0:Int)):=⟨fun _ _=>by simp,fun _ _ _ h=>by simp at h⟩
theorem vt(k:Int):lv (oC k):=by
 by_cases k1:k=1
 ·have:oC k=fun a b=>ga a.i b.i:=by funext a b;unfold oC;rw[if_pos k1]
  rw[this];exact pL.zQ ai.i
 ·by_cases k2:k=2
  ·have:oC k=fun a b=>ga (Bw a) (Bw b):=by funext a b;unfold oC;rw[if_neg k1,if_pos k2]
   rw[this];exact pL.zQ Bw
  ·by_cases k3:k=3
   ·have:oC k=fun a b=>nj a.s b.s:=by funext a b;unfold oC;rw[if_neg k1,if_neg k2,if_pos k3]
    rw[this];exact Ed.zQ ai.s
   ·have:oC k=fun a b=>0:=by funext a b;unfold oC;rw[if_neg k1,if_neg k2,if_neg k3]
    rw[this];exact Ep
theorem bg:lv aO:=by
 refine lv.lex (c:=fun a b=>ga a.kind b.kind) (d:=fun a b=>oC a.kind a b) (pL.zQ ai.kind) (fun x y h=>by rw[zN,if_pos h]) (fun x y h=>by rw[zN,if_neg (by simpa using h)]) (fun x y h=>?_) fun x y z h1 h2=>?_
 ·have h:=iV.1 h
  rw[h]
  exact(vt _).ff x y
 ·have h1:=iV.1 h1
  rw[h1]
  exact(vt _).cK x y z
end Go.Proofs.YtmbagpfmfiegkaaGreat
namespace Go.Proofs.YtmbagpfmfiegkaaGreat
namespace St
variable {α:Type} {eq:α→α→Bool}
def qY(eq:α→α→Bool):α→List α→List α
 |_,[]=>[]
 |p,y::t=>if eq y p=true then qY eq y t else y::qY eq y t
def aT(eq:α→α→Bool):List α→List α
 |[]=>[]
 |x::t=>x::qY eq x t
theorem uL:∀(p:α) (t:List α) (x:α),qY eq p (t++[x])=qY eq p t++(if eq x ((p::t).getLast (by simp))=true then[]else[x])
 |p,[],x=>by cases h:eq x p<;>simp[qY,h]
 |p,y::t,x=>by
  simp only[List.cons_append,qY,uL y t x]
  have e:(p::y::t).getLast (by simp)=(y::t).getLast (by simp):=List.getLast_cons (by simp)
  rw[e]
  by_cases h:eq y p=true
  ·simp[h]
  ·simp[h]
theorem ll{M:List α}{x y:α}{k:Nat}(hk:M.length=k+1)(hy:M[k]?=some y):aT eq (M++[x])=aT eq M++(if eq x y=true then[]else[x]):=by
 cases M with
 |nil=>simp at hk
 |cons p t=>
  simp only[List.cons_append,aT,uL]
  have:(p::t).getLast (by simp)=y:=by
   rw[List.getLast_eq_getElem]
   have h:=List.getElem?_eq_some_iff.1 hy
   obtain⟨h1,h2⟩:=h
   simp only[List.length_cons]at hk
   simp only[List.length_cons,show t.length+1-1=k by omega]
   exact h2
  rw[this]
theorem Fk(p:α)(t:List α):(qY eq p t).length≤t.length:=by
 induction t generalizing p with
 |nil=>simp[qY]
 |cons y t ih=>unfold qY;split<;>simp;exact Nat.le_succ_of_le (ih y);exact ih y
theorem tv(l:List α):(aT eq l).length≤l.length:=by
 cases l with
 |nil=>simp[aT]
 |cons x t=>simpa[aT]using Fk x t
end St
end Go.Proofs.YtmbagpfmfiegkaaGreat
namespace Go.Proofs.YtmbagpfmfiegkaaGreat
open Go.Proofs.YtmbagpfmfiegkaaGreatAw Go.RowKit
theorem tw{α:Type}{eq:α→α→Bool}:∀{t:List α} {p x:α},x∈St.qY eq p t→x∈t
 |[],_,_,h=>by simp[St.qY]at h
 |y::t,p,x,h=>by
  unfold St.qY at h
  split at h
  ·exact List.mem_cons_of_mem _ (tw h)
  ·rcases List.mem_cons.1 h with rfl|h
   ·exact List.mem_cons_self ..
   ·exact List.mem_cons_of_mem _ (tw h)
theorem tz{α:Type}{eq:α→α→Bool}{l:List α}{x:α}(h:x∈St.aT eq l):x∈l:=by
 cases l with
 |nil=>simp[St.aT]at h
 |cons y t=>
  rcases List.mem_cons.1 h with rfl|h
  ·exact List.mem_cons_self ..
  ·exact List.mem_cons_of_mem _ (tw h)
theorem lJ{α:Type}{c:α→α→Int}(ht:lv c):∀{t:List α} {p:α},St.aD (oS c) (p::t)→(p::St.qY (fun a b=>decide (c a b=0)) p t).Pairwise (fun x y=>oS c x y=true)∧∀x∈t,∃y∈p::St.qY (fun a b=>decide (c a b=0)) p t,c x y=0
 |[],p,_=>by simp[St.qY]
 |y::t,p,h=>by
  have h1:=List.pairwise_cons.1 h
  have h2:=List.pairwise_cons.1 h1.2
  have hp:oS c y p=false:=h1.1 y (by simp)
  unfold St.qY
  by_cases he:c y p=0
  ·rw[if_pos (by simpa using he)]
   have hs:St.aD (oS c) (p::t):=List.pairwise_cons.2 ⟨fun z hz=>h1.1 z (by simp[hz]),h2.2⟩
   have key:∀(t:List α) (y p:α),c y p=0→St.qY (fun a b=>decide (c a b=0)) y t=St.qY (fun a b=>decide (c a b=0)) p t:=by
    intro t
    cases t with
    |nil=>intros;rfl
    |cons z t=>
     intro y p h
     unfold St.qY
     have:decide (c z y=0)=decide (c z p=0):=by
      rw[Bool.eq_iff_iff,decide_eq_true_eq,decide_eq_true_eq]
      exact⟨fun g=>ht.gS g h,fun g=>ht.gS g ((ht.zero y p).1 h)⟩
     rw[this]
   rw[key t y p he]
   obtain⟨i1,i2⟩:=lJ ht hs
   refine⟨i1,fun x hx=>?_⟩
   rcases List.mem_cons.1 hx with rfl|hx
   ·exact⟨p,by simp,he⟩
   ·exact i2 x hx
  ·rw[if_neg (by simpa using he)]
   obtain⟨i1,i2⟩:=lJ ht h1.2
   have hlt:oS c p y=true:=by
    simp only[oS,decide_eq_true_eq,decide_eq_false_iff_not]at hp⊢
    have:=ht.ff p y
    omega
   refine⟨List.pairwise_cons.2 ⟨fun z hz=>?_,i1⟩,fun x hx=>?_⟩
   ·rcases List.mem_cons.1 hz with rfl|hz
    ·exact hlt
    ·exact ht.ord.trans hlt ((List.pairwise_cons.1 i1).1 z hz)
   ·rcases List.mem_cons.1 hx with rfl|hx
    ·exact⟨x,by simp,ht.self x⟩
    ·obtain⟨z,hz,hc⟩:=i2 x hx
     exact⟨z,List.mem_cons_of_mem _ hz,hc⟩
theorem j8{α:Type}{c:α→α→Int}(ht:lv c){l:List α}(h:St.aD (oS c) l):(St.aT (fun a b=>decide (c a b=0)) l).Pairwise (fun x y=>oS c x y=true)∧∀x∈l,∃y∈St.aT (fun a b=>decide (c a b=0)) l,c x y=0:=by
 cases l with
 |nil=>simp[St.aT]
 |cons p t=>
  obtain⟨h1,h2⟩:=lJ ht h
  refine⟨h1,fun x hx=>?_⟩
  rcases List.mem_cons.1 hx with rfl|hx
  ·exact⟨x,by simp[St.aT],ht.self x⟩
  ·exact h2 x hx
def aQ{α:Type}(c:α→α→Int)(l:List α):List α:=St.aT (fun a b=>decide (c a b=0)) (St.bN (oS c) l)
theorem xc{α:Type}{c:α→α→Int}(ht:lv c)(l:List α):(aQ c l).Pairwise (fun x y=>oS c x y=true):=(j8 ht (St.cQ ht.ord l)).1
theorem ej{α:Type}{c:α→α→Int}(ht:lv c){l:List α}{x:α}(h:x∈aQ c l):x∈l:=(St.mW ht.ord).1 (tz h)
theorem Cf{α:Type}{c:α→α→Int}(ht:lv c){l:List α}{x:α}(h:x∈l):∃y∈aQ c l,c x y=0:=(j8 ht (St.cQ ht.ord l)).2 x ((St.mW ht.ord).2 h)
def kD(words:List ai)(v:ai):Nat:=words.countP fun w=>decide (aO w v<0)
def cP(words:List ai)(v:ai):Int:=oB (fun w=>decide (aO w v=0)) words
theorem x7(words:List ai)(v:ai):-1≤cP words v∧cP words v<words.length∨words=[]∧cP words v=-1:=by
 unfold cP oB
 split
 ·rename_i h
  obtain⟨x,hx,hp⟩:=List.any_eq_true.1 h
  have:words.findIdx (fun w=>decide (aO w v=0))<words.length:=List.findIdx_lt_length_of_exists ⟨x,hx,hp⟩
  left;omega
 ·cases words with
  |nil=>exact .inr ⟨rfl,rfl⟩
  |cons a l=>left;simp;omega
def fG(words l:List ai):Bool:=l.all fun v=>decide (0≤cP words v)
def yi(words l:List ai):List Nat:=if fG words l then l.map fun v=>(cP words v).toNat else[]
def xE(words l:List ai):Int:=if fG words l then 0 else 6
def sN(words l:List ai):AV:= .bf [.d (.list false (us (yi words l))),iA (xE words l)]
theorem A5{words l:List ai}{k:Nat}(hk:k<l.length)(h:cP words l[k]<0):fG words l=false:=by
 rw[Bool.eq_false_iff]
 intro g
 unfold fG at g
 rw[List.all_eq_true]at g
 have:=g _ (List.getElem_mem hk)
 simp at this
 omega
theorem xe{words l:List ai}(h:∀i (hi:i<l.length),0≤cP words l[i]):fG words l=true:=by
 unfold fG
 rw[List.all_eq_true]
 intro v hv
 obtain⟨i,hi,rfl⟩:=List.mem_iff_getElem.1 hv
 simpa using h i hi
def D3(v:ai):aA:= .box 25 3 0 1 [iA v.kind,iA v.i,sA v.s]
theorem wK(w v:ai)(id:Nat)(H:aa)(hb:H[id]?=some (D3 v)):ag Tryz.prog 155 [w.av,.ptr id 0 0 0] H (.ok (bA (decide (aO w v=0)))) H:=by
 have hlt:id<H.length:=(List.getElem?_eq_some_iff.1 hb).1
 unfold D3 at hb
 refine ag.aj (hint:=(fun _=>false)) Tryz.func155 (by kernel_rfl) rfl [3] (by kernel_rfl) (by decide) (by simp[Tryz.ntmps155]) ?_
 rw[Tryz.ntmps155]
 simp -implicitDefEqProofs only[↓reduceIte,go_sem,ah,Nat.reduceAdd,Nat.reduceLT,Nat.reduceEqDiff,eq_self,hb,List.getElem?_append_left hlt]
 refine ab.ok (dI w v _) ?_
 simp -implicitDefEqProofs only[↓reduceIte,go_sem,Nat.reduceLT,eq_self]
 refine aw.ret ?_
 simp -implicitDefEqProofs only[↓reduceIte,go_sem,Nat.reduceLT,eq_self]
theorem vr(words l:List ai)(n1 n2:Bool)(H:aa)(hw:words.length≤1000000000000)(hl:l.length≤1000000000000):ag Tryz.prog 120 [.d (.list n1 (words.map ai.enc)),.d (.list n2 (l.map ai.enc))] H
  (.ok (if fG words l then .bf [.d (.list false (us (l.map fun v=>(cP words v).toNat))),iA 0]else .bf [.d (.v (.slice none 0 0)),iA 6])) H:=by
 refine ag.aj (hint:=(fun _=>false)) Tryz.func120 (by kernel_rfl) rfl [4,5] (by kernel_rfl) (by decide) (by simp[Tryz.ntmps120]) ?_
 rw[Tryz.ntmps120]
 simp -implicitDefEqProofs only[↓reduceIte,go_sem,Nat.reduceLT,Nat.reduceEqDiff,eq_self]
 refine bl (fun k s H'=>H'=H++[.arr 49 1 k (us ((l.take k).map fun v=>(cP words v).toNat))]∧(∀i (hi:i<k) (hl:i<l.length),0≤cP words l[i])∧s 0= .d (.list n1 (words.map ai.enc))∧s 6= .sl H.length k 0 k∧s 10= .d (.list n2 (l.map ai.enc))∧s 11=iA l.length∧s 12=iA k) l.length (by omega) (ar.eU _ _ 6 49 1 (by decide) (by simp -implicitDefEqProofs only[↓reduceIte,go_sem,Nat.reduceLT,Nat.reduceEqDiff,eq_self]) _) ?_ ?_ ?_
 ·refine⟨rfl,fun i hi=>by omega,?_⟩
  simp -implicitDefEqProofs only[↓reduceIte,go_sem,Nat.reduceLT,Nat.reduceEqDiff,reduceCtorEq,eq_self]
 ·rintro k s H' hk hw' ⟨rfl,hp,t0,t6,t10,t11,t12⟩
  have hx:=List.getElem?_eq_getElem hk
  have e1:(l.take (k+1)).map (fun v=>(cP words v).toNat)=(l.take k).map (fun v=>(cP words v).toNat)++[(cP words l[k]).toNat]:=by rw[List.take_succ_eq_append_getElem hk,List.map_append];rfl
  have hbad:=A5 (words:=words) hk
  have hrng:=x7 words l[k]
  have hpp:0≤cP words l[k]→∀i (hi:i<k+1) (hl:i<l.length),0≤cP words l[i]:=fun h0 i hi hl'=>by
   rcases Nat.lt_or_ge i k with h|h
   ·exact hp i h hl'
   ·obtain rfl:i=k:=by omega
    exact h0
  have hlen:((l.take k).map fun v=>(cP words v).toNat).length=k:=by simp;omega
  generalize l[k]=x at hx e1 hbad hrng hpp
  generalize (l.take k).map (fun v=>(cP words v).toNat)=L at e1 hlen⊢
  simp -implicitDefEqProofs only[↓reduceIte,go_sem,ak,Nat.reduceAdd,Nat.reduceLT,Nat.reduceEqDiff,reduceCtorEq,eq_self,t10,t11,t12,hk,hx,ai.enc]
  simp -implicitDefEqProofs only[go_sem,t0]
  refine ab.ok (om words (fun w=>decide (aO w x=0)) 155 [.ptr (H.length+1) 0 0 0] n1 _ (by omega) fun w _=>wK w x _ _ (by simp[D3])) ?_
  have hpl:oB (fun w=>decide (aO w x=0)) words=cP words x:=rfl
  rw[hpl]
  generalize hq:cP words x=q at*
  by_cases hq0:q<0
  ·simp -implicitDefEqProofs only[↓reduceIte,go_sem,Nat.reduceLT,eq_self,hq0]
   refine aw.ret ?_
   rw[hbad hq0]
   simp -implicitDefEqProofs only[↓reduceIte,go_sem,Nat.reduceLT,Nat.reduceEqDiff,eq_self,Bool.false_eq_true]
  ·obtain⟨n,rfl⟩:∃n:Nat,q=(n:Int):=⟨q.toNat,by omega⟩
   have hnw:n<1000000000000:=by omega
   have hu:IntKind.u64.wrap (n:Int)=(n:Int):=lF _ (by omega) (by omega)
   simp -implicitDefEqProofs only[↓reduceIte,go_sem,Nat.reduceAdd,Nat.reduceLT,Nat.reduceLeDiff,Nat.reduceEqDiff,eq_self,t6,t12,hq0,hu,fT,hlen,tI]
   refine⟨by omega,by omega,?_⟩
   refine eQ.cut [.arr 49 1 (k+1) (us (L++[n]))] [D3 x] 1 rfl rfl (by simp -implicitDefEqProofs only[go_sem,eq_self]) ?_
   refine⟨by rw[e1];simp,hpp (by omega),?_⟩
   simp -implicitDefEqProofs only[↓reduceIte,go_sem,Nat.reduceLT,Nat.reduceEqDiff,reduceCtorEq,eq_self,t0,t10,t11,hw',Nat.lt_succ_self]
 ·rintro s H' ⟨rfl,hp,t0,t6,t10,t11,t12⟩
  have hg:=xe (words:=words) fun i hi=>hp i hi hi
  rw[List.take_length,hg]
  simp -implicitDefEqProofs only[↓reduceIte,go_sem,Nat.reduceLT,Nat.reduceEqDiff,eq_self,t6,t11,t12]
  refine aw.ret ?_
  simp -implicitDefEqProofs only[↓reduceIte,go_sem,Nat.reduceLT,Nat.reduceEqDiff,eq_self,dD,fT]
theorem xy(words l:List ai)(n1 n2:Bool)(H:aa)(hw:words.length≤1000000000000)(hl:l.length≤1000000000000):ag Tryz.prog 120 [.d (.list n1 (words.map ai.enc)),.d (.list n2 (l.map ai.enc))] H (.ok (sN words l)) H:=by
 have h:=vr words l n1 n2 H hw hl
 unfold sN yi xE
 cases hc:fG words l with
 |true=>rw[hc]at h;simpa using h
 |false=>
  rw[hc]at h
  simp only[Bool.false_eq_true,if_false]at h⊢
  exact h.bY (.cons .nil (.cons (.refl _) .nil))
end Go.Proofs.YtmbagpfmfiegkaaGreat
namespace Go.Proofs.YtmbagpfmfiegkaaGreat
open Go.Proofs.YtmbagpfmfiegkaaGreatAw Go.RowKit
namespace SV
theorem JX(l:List ai):(∀c∈l.map ai.enc,c.length=3)=True:=eq_true fun c hc=>by obtain⟨a,_,rfl⟩:=List.mem_map.1 hc;rfl
theorem G0(K:Value→Prop):cF Tryz.prog .eql 42 (.slice none 0 0) (.slice none 0 0) K=K (.bool true):=Ci (e:=25) (by kernel_rfl) K
theorem qZ(H:aa):ag Tryz.prog 151 [.d (.v (.slice none 0 0))] H (.ok (.d (.v (.slice none 0 0)))) H:=by
 refine ag.aj (hint:=(fun _=>false)) Tryz.func151 (by kernel_rfl) rfl [2] (by kernel_rfl) (by decide) (by simp[Tryz.ntmps151]) ?_
 rw[Tryz.ntmps151]
 simp -implicitDefEqProofs only[↓reduceIte,go_sem,Nat.reduceLT,reduceCtorEq,eq_self,G0]
 refine aw.bq ?_
 simp -implicitDefEqProofs only[↓reduceIte,go_sem,Nat.reduceLT,eq_self]
theorem ku(l:List ai)(nn:Bool)(H:aa)(h0:nn=true∨l≠[])(hl:l.length≤1000000000000):ag Tryz.prog 151 [.d (.list nn (l.map ai.enc))] H (.ok (.sl H.length 1 0 l.length)) (H++[.arr 25 3 1 (l.map ai.enc)]):=by
 have e1:(nn|| !(l.map ai.enc).isEmpty)=true:=by
  rcases h0 with h|h
  ·simp[h]
  ·cases l with
   |nil=>exact absurd rfl h
   |cons a l=>simp
 refine ag.aj (hint:=(fun _=>false)) Tryz.func151 (by kernel_rfl) rfl [2] (by kernel_rfl) (by decide) (by simp[Tryz.ntmps151]) ?_
 rw[Tryz.ntmps151]
 simp -implicitDefEqProofs only[↓reduceIte,go_sem,Nat.reduceAdd,Nat.reduceLT,Nat.reduceEqDiff,reduceCtorEq,eq_self,e1,JX]
 refine⟨by omega,by omega,_,ar.refl _ _,?_⟩
 simp -implicitDefEqProofs only[↓reduceIte,go_sem,Nat.reduceLT,eq_self]
theorem xf(l:List ai)(nn:Bool)(H:aa)(hl:l.length≤1000000000000):ag Tryz.prog 151 [.d (.list nn (l.map ai.enc))] H (.ok (.sl H.length 1 0 l.length)) (H++[.arr 25 3 1 (l.map ai.enc)]):=by
 cases nn with
 |true=>exact ku l true H (.inl rfl) hl
 |false=>
  cases l with
  |cons a l=>exact ku _ false H (.inr (by simp)) hl
  |nil=>
   refine ag.CZ [] [] ?_ (ku [] true H (.inl rfl) (by simp))
   have:=(qZ H).Hg (ar.Dg (zi _) H 0 25 3 1 (by decide) rfl)
   simpa[zi]using this
end SV
end Go.Proofs.YtmbagpfmfiegkaaGreat
namespace Go.Proofs.YtmbagpfmfiegkaaGreat
open Go.Proofs.YtmbagpfmfiegkaaGreatAw Go.RowKit
namespace SV
def aH(H:aa)(id ver:Nat)(L:List ai):aa:=H.set id (.arr 25 3 ver (L.map ai.enc))
theorem gP{H:aa}{id:Nat}(h:id<H.length)(ver:Nat)(L:List ai):(aH H id ver L)[id]?=some (.arr 25 3 ver (L.map ai.enc)):=by simp[aH,h]
theorem nr(H:aa)(id ver:Nat)(L:List ai)(v:Nat)(es:List (List D)):(aH H id ver L).set id (.arr 25 3 v es)=H.set id (.arr 25 3 v es):=by simp[aH]
theorem mb(H:aa)(id ver:Nat)(L:List ai):H.set id (.arr 25 3 ver (L.map ai.enc))=aH H id ver L:=rfl
theorem cq{L:List ai}{i:Nat}{x:ai}(h:L[i]?=some x):(L.map ai.enc)[i]?=some (ai.enc x):=by simp[h]
theorem fZ(L:List ai)(i:Nat)(x:ai):(L.map ai.enc).set i (ai.enc x)=(L.set i x).map ai.enc:=by simp[List.map_set]
theorem get_at{A B:List ai}{x:ai}{n:Nat}(h:A.length=n):(A++x::B)[n]?=some x:=by subst h;simp
theorem gN{A B:List ai}{x y:ai}{n:Nat}(h:A.length=n):(A++x::B).set n y=A++y::B:=by subst h;simp
def CC(P X M Y Q:List ai)(k:Nat):List ai:=P++Y.take k++(X.drop k++M++X.take k++(Y.drop k++Q))
theorem Dv(P X M Y Q:List ai):CC P X M Y Q 0=P++X++M++Y++Q:=by simp[CC]
theorem Fx(P X M Y Q:List ai)(n:Nat)(h1:X.length=n)(h2:Y.length=n):CC P X M Y Q n=P++Y++M++X++Q:=by
 unfold CC
 rw[List.take_of_length_le (by omega),List.drop_of_length_le (by omega),List.take_of_length_le (by omega),List.drop_of_length_le (by omega)]
 simp
theorem Ea(P X M Y Q:List ai)(k:Nat)(hk:k<X.length)(h:X.length=Y.length):∃x y,(CC P X M Y Q k)[P.length+k]?=some x∧(CC P X M Y Q k)[P.length+X.length+M.length+k]?=some y∧
  ((CC P X M Y Q k).set (P.length+k) y).set (P.length+X.length+M.length+k) x=CC P X M Y Q (k+1):=by
 have hk2:k<Y.length:=by omega
 have e1:X.drop k=X[k]::X.drop (k+1):=List.drop_eq_getElem_cons hk
 have e2:Y.drop k=Y[k]::Y.drop (k+1):=List.drop_eq_getElem_cons hk2
 have e3:X.take (k+1)=X.take k++[X[k]]:=List.take_succ_eq_append_getElem hk
 have e4:Y.take (k+1)=Y.take k++[Y[k]]:=List.take_succ_eq_append_getElem hk2
 have l1:(P++Y.take k).length=P.length+k:=by simp;omega
 have l2:(X.drop (k+1)).length=X.length-(k+1):=by simp
 have l3:(X.take k).length=k:=by simp;omega
 unfold CC
 rw[e1,e2,e3,e4]
 generalize X[k]=x
 generalize Y[k]=y
 generalize X.drop (k+1)=X1 at*
 generalize Y.drop (k+1)=Y1 at*
 generalize X.take k=X0 at*
 generalize Y.take k=Y0 at*
 have a1:P++Y0++(x::X1++M++X0++(y::Y1++Q))=(P++Y0)++x::(X1++M++X0++(y::Y1++Q)):=by simp
 have a2:P++Y0++(x::X1++M++X0++(y::Y1++Q))=(P++Y0++x::X1++M++X0)++y::(Y1++Q):=by simp
 have a3:(P++Y0)++y::(X1++M++X0++(y::Y1++Q))=(P++Y0++y::X1++M++X0)++y::(Y1++Q):=by simp
 refine⟨x,y,?_,?_,?_⟩
 ·rw[a1];exact get_at l1
 ·rw[a2]
  refine get_at ?_
  simp only[List.length_append,List.length_cons,l2,l3]at*
  omega
 ·rw[a1,gN l1,a3,gN (by simp only[List.length_append,List.length_cons,l2,l3]at*;omega)]
  simp
theorem qf(H:aa)(id ver:Nat)(hid:id<H.length)(g:FuncId)(caps:List AV)(P X M Y Q:List ai)(a b n m:Nat)(ha:P.length=a)(hn:X.length=n)(hy:Y.length=n)(hb:P.length+X.length+M.length=b)
  (hm:(P++X++M++Y++Q).length=m) (hbig:m≤1000000000000):
  ag Tryz.prog 182 [.sl id ver 0 m,iA a,iA b,iA n,.fn g caps] (aH H id ver (P++X++M++Y++Q)) (.ok (.bf [])) (aH H id ver (P++Y++M++X++Q)):=by
 have hml:P.length+X.length+M.length+Y.length+Q.length=m:=by rw[←hm];simp;omega
 generalize hE:aH H id ver (P++Y++M++X++Q)=E
 generalize hE0:aH H id ver (P++X++M++Y++Q)=E0
 refine ag.aj (hint:=(fun _=>false)) Tryz.func182 (by kernel_rfl) rfl [] (by kernel_rfl) (by decide) (by simp[Tryz.ntmps182]) ?_
 rw[Tryz.ntmps182]
 simp -implicitDefEqProofs only[go_sem]
 refine fM (fun k s H'=>H'=aH H id ver (CC P X M Y Q k)∧s 0= .sl id ver 0 m∧s 1=iA a∧s 2=iA b∧s 3=iA n∧s 10=iA k) n (by omega) (ar.refl _ _) ?_ ?_ ?_
 ·refine⟨by rw[Dv,hE0],?_⟩
  simp -implicitDefEqProofs only[↓reduceIte,go_sem,Nat.reduceLT,Nat.reduceEqDiff,reduceCtorEq,eq_self]
 ·rintro k s H' hk hw ⟨rfl,t0,t1,t2,t3,t10⟩
  obtain⟨x,y,hx,hy2,hst⟩:=Ea P X M Y Q k (by omega) (by omega)
  rw[hb]at hy2 hst
  rw[ha]at hx hst
  obtain⟨i,hi⟩:∃i,i=a+k:=⟨_,rfl⟩
  obtain⟨j,hj⟩:∃j,j=b+k:=⟨_,rfl⟩
  have w1:IntKind.i64.wrap ((a:Int)+(k:Int))=(i:Int):=by rw[wrap64_in _ (by omega) (by omega)];omega
  have w2:IntKind.i64.wrap ((b:Int)+(k:Int))=(j:Int):=by rw[wrap64_in _ (by omega) (by omega)];omega
  rw[←hi]at hx hst
  rw[←hj]at hy2 hst
  have hil:i<m:=by omega
  have hjl:j<m:=by omega
  generalize CC P X M Y Q k=L at*
  generalize CC P X M Y Q (k+1)=L' at*
  have gx:=cq hx
  have gy:=cq hy2
  have gh:=gP hid ver L
  have s1:=fZ L i y
  have s2:=fZ (L.set i y) j x
  rw[hst]at s2
  have gy2:((L.set i y).map ai.enc)[j]?=some (ai.enc y):=by
   refine cq ?_
   rw[List.getElem?_set]
   by_cases hij:i=j
   ·omega
   ·rw[if_neg hij];exact hy2
  simp only[ai.enc]at gx gy gy2 s1 s2
  simp -implicitDefEqProofs only[↓reduceIte,go_sem,Nat.reduceLT,Nat.reduceEqDiff,eq_self,t3,t10,hk]
  refine jg [false,false,false,false,false,false,false,false,false,false,false,false,false,false,false,false,false,false,false,false,true,true,true,true] 20 K.mixed (by kernel_rfl) (by kernel_rfl) (by kernel_rfl) ?_
  simp -implicitDefEqProofs only[↓reduceIte,go_sem,ah,ak,Nat.reduceAdd,Nat.reduceLT,Nat.reduceEqDiff,reduceCtorEq,eq_self,t0,t1,t2,t10,w1,w2,hil,hjl,gh,gx,gy,nr,s1,s2,gy2,hid,List.getElem?_set_self,List.set_set]
  refine eQ.same ⟨by rw[←mb],?_⟩
  simp -implicitDefEqProofs only[↓reduceIte,go_sem,Nat.reduceLT,Nat.reduceEqDiff,reduceCtorEq,eq_self,t0,t1,t2,t3,hw]
 ·rintro s H' ⟨rfl,t0,t1,t2,t3,t10⟩
  simp -implicitDefEqProofs only[↓reduceIte,go_sem,Nat.reduceLT,Nat.reduceEqDiff,eq_self,t3,t10]
  rw[Fx _ _ _ _ _ n hn hy,hE]
  exact⟨_,ar.refl _ _,rfl⟩
theorem jy(H:aa)(id ver:Nat)(hid:id<H.length)(g:FuncId)(caps:List AV)(P X M Y Q L L':List ai)(a b n m:Nat)(hL:L=P++X++M++Y++Q)(hL':L'=P++Y++M++X++Q)(ha:P.length=a)(hn:X.length=n)(hy:Y.length=n)(hb:P.length+X.length+M.length=b)
  (hm:L.length=m) (hbig:m≤1000000000000):
  ag Tryz.prog 182 [.sl id ver 0 m,iA a,iA b,iA n,.fn g caps] (aH H id ver L) (.ok (.bf [])) (aH H id ver L'):=by
 subst hL hL'
 exact qf H id ver hid g caps P X M Y Q a b n m ha hn hy hb hm hbig
end SV
end Go.Proofs.YtmbagpfmfiegkaaGreat
namespace Go.Proofs.YtmbagpfmfiegkaaGreat
open Go.Proofs.YtmbagpfmfiegkaaGreatAw Go.RowKit
namespace SV
structure JC where
 L:List ai
 P:List ai
 U:List ai
 V:List ai
 Q:List ai
theorem wu(H:aa)(id ver:Nat)(hid:id<H.length)(g:FuncId)(caps:List AV)(P U V Q L T:List ai)(hL:L=P++U++V++Q)(hT:T=P++V++U++Q)(a m b n:Nat)(ha:P.length=a)(hm:P.length+U.length=m)(hb:P.length+U.length+V.length=b)(hU:0<U.length)(hV:0<V.length)
  (hn:L.length=n) (hbig:n≤1000000000000):
  ag Tryz.prog 181 [.sl id ver 0 n,iA a,iA m,iA b,.fn g caps] (aH H id ver L) (.ok (.bf [])) (aH H id ver T):=by
 have hnl:P.length+U.length+V.length+Q.length=n:=by rw[←hn,hL];simp;omega
 generalize hE0:aH H id ver L=E0
 have w1:IntKind.i64.wrap ((m:Int)-(a:Int))=((U.length:Nat):Int):=by rw[wrap64_in _ (by omega) (by omega)];omega
 have w2:IntKind.i64.wrap ((b:Int)-(m:Int))=((V.length:Nat):Int):=by rw[wrap64_in _ (by omega) (by omega)];omega
 refine ag.aj (hint:=(fun _=>false)) Tryz.func181 (by kernel_rfl) rfl [] (by kernel_rfl) (by decide) (by simp[Tryz.ntmps181]) ?_
 rw[Tryz.ntmps181]
 simp -implicitDefEqProofs only[↓reduceIte,go_sem,Nat.reduceLT,Nat.reduceEqDiff,eq_self,w1,w2]
 refine cC _ _ _ _ (fun(x:JC) s H'=>H'=aH H id ver x.L∧x.L=x.P++x.U++x.V++x.Q∧T=x.P++x.V++x.U++x.Q∧x.P.length+x.U.length=m∧0<x.U.length∧0<x.V.length∧x.L.length=n∧
   s 0= .sl id ver 0 n∧s 2=iA m∧s 4= .fn g caps∧s 10=iA x.U.length∧s 11=iA x.V.length) (fun x=>x.U.length+x.V.length) ⟨L,P,U,V,Q⟩ (ar.refl _ _) ?_ ?_
 ·refine⟨hE0.symm,hL,hT,hm,hU,hV,hn,?_⟩
  simp -implicitDefEqProofs only[↓reduceIte,go_sem,Nat.reduceLT,Nat.reduceEqDiff,reduceCtorEq,eq_self]
 ·rintro⟨L',P',U',V',Q'⟩ s H' ⟨rfl,hL',hT',hm',hU',hV',hn',t0,t2,t4,t10,t11⟩
  simp only at hL' hT' hm' hU' hV' hn' t0 t2 t4 t10 t11
  have hnl':P'.length+U'.length+V'.length+Q'.length=n:=by rw[←hn',hL'];simp;omega
  have w3:IntKind.i64.wrap ((m:Int)-(U'.length:Int))=((P'.length:Nat):Int):=by rw[wrap64_in _ (by omega) (by omega)];omega
  by_cases hij:U'.length=V'.length
  ·have hij':(((U'.length:Nat):Int) !=((V'.length:Nat):Int))=false:=by simp[hij]
   simp -implicitDefEqProofs only[↓reduceIte,go_sem,Nat.reduceLT,Nat.reduceEqDiff,reduceCtorEq,eq_self,t10,t11,hij']
   simp -implicitDefEqProofs only[↓reduceIte,go_sem,Nat.reduceLT,Nat.reduceEqDiff,eq_self,t0,t2,t4,t10,w3]
   refine ab.ok (jy H id ver hid g caps P' U' [] V' Q' L' T P'.length m U'.length n (by rw[hL'];simp) (by rw[hT'];simp) rfl rfl (by omega) (by simp;omega) hn' hbig) ?_
   simp -implicitDefEqProofs only[go_sem]
   exact⟨_,ar.refl _ _,rfl⟩
  ·have hij':(((U'.length:Nat):Int) !=((V'.length:Nat):Int))=true:=by simp;omega
   by_cases hgt:V'.length<U'.length
   ·have hgt':(((V'.length:Nat):Int)<((U'.length:Nat):Int))=True:=eq_true (by omega)
    have e1:U'.take V'.length++U'.drop V'.length=U':=List.take_append_drop _ _
    have l1:(U'.take V'.length).length=V'.length:=by simp;omega
    have l2:(U'.drop V'.length).length=U'.length-V'.length:=by simp
    generalize U'.take V'.length=X at*
    generalize U'.drop V'.length=Y at*
    have e2:=congrArg List.length e1
    simp only[List.length_append]at e2
    have w4:IntKind.i64.wrap (U'.length-(V'.length:Int))=((Y.length:Nat):Int):=by rw[wrap64_in _ (by omega) (by omega)];omega
    obtain⟨L2,hL2⟩:∃L2,L2=P'++V'++Y++X++Q':=⟨_,rfl⟩
    have hl2:L2.length=n:=by rw[hL2];simp only[List.length_append]at*;omega
    simp -implicitDefEqProofs only[↓reduceIte,go_sem,Nat.reduceLT,Nat.reduceEqDiff,reduceCtorEq,eq_self,t10,t11,hij',hgt']
    simp -implicitDefEqProofs only[↓reduceIte,go_sem,Nat.reduceLT,Nat.reduceEqDiff,eq_self,t0,t2,t4,t11,w3]
    refine ab.ok (jy H id ver hid g caps P' X Y V' Q' L' L2 P'.length m V'.length n (by rw[hL',←e1];simp) hL2 rfl l1 rfl (by omega) hn' hbig) ?_
    simp -implicitDefEqProofs only[↓reduceIte,go_sem,Nat.reduceLT,Nat.reduceEqDiff,eq_self,t10,t11,w4]
    refine⟨_,_,⟨L2,P'++V',Y,X,Q'⟩,ar.refl _ _,⟨rfl,by rw[hL2];simp,by rw[hT',←e1];simp,?_,?_,?_,hl2,?_⟩,?_⟩
    ·simp only[List.length_append];omega
    ·simp only;omega
    ·simp only;omega
    ·simp -implicitDefEqProofs only[↓reduceIte,go_sem,Nat.reduceLT,Nat.reduceEqDiff,reduceCtorEq,eq_self,t0,t2,t4,t11,l1]
    ·simp only;omega
   ·have hgt':(((V'.length:Nat):Int)<((U'.length:Nat):Int))=False:=eq_false (by omega)
    have e1:V'.take (V'.length-U'.length)++V'.drop (V'.length-U'.length)=V':=List.take_append_drop _ _
    have l1:(V'.take (V'.length-U'.length)).length=V'.length-U'.length:=by simp
    have l2:(V'.drop (V'.length-U'.length)).length=U'.length:=by simp;omega
    generalize V'.take (V'.length-U'.length)=Y at*
    generalize V'.drop (V'.length-U'.length)=Z at*
    have e2:=congrArg List.length e1
    simp only[List.length_append]at e2
    have w4:IntKind.i64.wrap (V'.length-(U'.length:Int))=((Y.length:Nat):Int):=by rw[wrap64_in _ (by omega) (by omega)];omega
    have w5:IntKind.i64.wrap ((m:Int)+(V'.length:Int))=(m:Int)+(V'.length:Int):=by rw[wrap64_in _ (by omega) (by omega)]
    have w6:IntKind.i64.wrap ((m:Int)+(V'.length:Int)-(U'.length:Int))=((m+Y.length:Nat):Int):=by rw[wrap64_in _ (by omega) (by omega)];omega
    obtain⟨L2,hL2⟩:∃L2,L2=P'++Z++Y++U'++Q':=⟨_,rfl⟩
    have hl2':L2.length=n:=by rw[hL2];simp only[List.length_append]at*;omega
    simp -implicitDefEqProofs only[↓reduceIte,go_sem,Nat.reduceLT,Nat.reduceEqDiff,reduceCtorEq,eq_self,t10,t11,hij',hgt']
    simp -implicitDefEqProofs only[↓reduceIte,go_sem,Nat.reduceLT,Nat.reduceEqDiff,eq_self,t0,t2,t4,t10,t11,w3,w5,w6]
    refine ab.ok (jy H id ver hid g caps P' U' Y Z Q' L' L2 P'.length (m+Y.length) U'.length n (by rw[hL',←e1];simp) hL2 rfl rfl l2 (by omega) hn' hbig) ?_
    simp -implicitDefEqProofs only[↓reduceIte,go_sem,Nat.reduceLT,Nat.reduceEqDiff,eq_self,t10,t11,w4]
    refine⟨_,_,⟨L2,P',Z,Y,U'++Q'⟩,ar.refl _ _,⟨rfl,by rw[hL2];simp,by rw[hT',←e1];simp,?_,?_,?_,hl2',?_⟩,?_⟩
    ·simp only;omega
    ·simp only;omega
    ·simp only;omega
    ·simp -implicitDefEqProofs only[↓reduceIte,go_sem,Nat.reduceLT,Nat.reduceEqDiff,reduceCtorEq,eq_self,t0,t2,t4,t10,l2]
    ·simp only;omega
end SV
end Go.Proofs.YtmbagpfmfiegkaaGreat
namespace Go.Proofs.YtmbagpfmfiegkaaGreat
open Go.Proofs.YtmbagpfmfiegkaaGreatAw Go.RowKit
namespace SV
def c6(c:ai→ai→Int)(x y:ai):Bool:=decide (c x y<0)
def mz(g:FuncId)(caps:List AV)(c:ai→ai→Int)(H:aa)(id:Nat):Prop:=∀(o:aA) (x y:ai),ag Tryz.prog g ([.agg ((ai.enc x).map .d),.agg ((ai.enc y).map .d)]++caps) (H.set id o) (.ok (iA (c x y))) (H.set id o)
theorem mz.at{g:FuncId}{caps:List AV}{c:ai→ai→Int}{H:aa}{id:Nat}(h:mz g caps c H id)(ver:Nat)(L:List ai)(x y:ai):ag Tryz.prog g ([.agg ((ai.enc x).map .d),.agg ((ai.enc y).map .d)]++caps) (aH H id ver L) (.ok (iA (c x y))) (aH H id ver L):=h _ x y
structure JV where
 L:List ai
 A:List ai
 B:List ai
theorem ml(H:aa)(id ver:Nat)(hid:id<H.length)(g:FuncId)(caps:List AV)(c:ai→ai→Int)(ho:St.Ord (c6 c))(hc:mz g caps c H id)(P X Q L L':List ai)(hL:L=P++X++Q)(hL':L'=P++St.bN (c6 c) X++Q)(a b n:Nat)(ha:P.length=a)(hb:P.length+X.length=b)
  (hn:L.length=n) (hbig:n≤1000000000000):
  ag Tryz.prog 179 [.sl id ver 0 n,iA a,iA b,.fn g caps] (aH H id ver L) (.ok (.bf [])) (aH H id ver L'):=by
 have hnl:P.length+X.length+Q.length=n:=by rw[←hn,hL];simp;omega
 generalize hE0:aH H id ver L=E0
 have w1:IntKind.i64.wrap ((a:Int)+1)=(a:Int)+1:=wrap64_in _ (by omega) (by omega)
 refine ag.aj (hint:=(fun _=>false)) Tryz.func179 (by kernel_rfl) rfl [] (by kernel_rfl) (by decide) (by simp[Tryz.ntmps179]) ?_
 rw[Tryz.ntmps179]
 simp -implicitDefEqProofs only[↓reduceIte,go_sem,Nat.reduceLT,eq_self,w1]
 refine fM (fun k s H'=>(∃Lk,H'=aH H id ver Lk∧Lk=P++(St.bN (c6 c) (X.take (k+1))++(X.drop (k+1)++Q)))∧s 0= .sl id ver 0 n∧s 1=iA a∧s 2=iA b∧s 3= .fn g caps∧s 8=iA ((a:Int)+1+(k:Int))) (X.length-1) (by omega) (ar.refl _ _) ?_ ?_ ?_
 ·refine⟨⟨L,hE0.symm,?_⟩,?_⟩
  ·have:St.bN (c6 c) (X.take 1)=X.take 1:=by cases X<;>rfl
   rw[hL,this,←List.append_assoc (X.take 1),List.take_append_drop,List.append_assoc]
  ·simp -implicitDefEqProofs only[↓reduceIte,go_sem,Nat.reduceLT,Nat.reduceEqDiff,reduceCtorEq,eq_self,Int.add_zero]
 ·rintro k s H' hk hw ⟨⟨Lk,rfl,hLk⟩,t0,t1,t2,t3,t8⟩
  have hkx:k+1<X.length:=by omega
  have e1:X.drop (k+1)=X[k+1]::X.drop (k+1+1):=List.drop_eq_getElem_cons hkx
  have e2:X.take (k+1+1)=X.take (k+1)++[X[k+1]]:=List.take_succ_eq_append_getElem hkx
  have hSl:=St.cG (lt:=c6 c) (X.take (k+1))
  have hXl:(X.take (k+1)).length=k+1:=by simp;omega
  have hRl:(X.drop (k+1+1)).length=X.length-(k+2):=by simp
  rw[e1]at hLk
  rw[e2]
  have hlt:((a:Int)+1+(k:Int)<(b:Int))=True:=eq_true (by omega)
  have hss:=St.cQ ho (X.take (k+1))
  generalize X[k+1]=x at*
  generalize X.drop (k+1+1)=R0 at*
  generalize X.take (k+1)=X0 at*
  generalize hS:St.bN (c6 c) X0=S at*
  simp -implicitDefEqProofs only[↓reduceIte,go_sem,Nat.reduceLT,Nat.reduceEqDiff,eq_self,t2,t8,hlt]
  refine cC _ _ _ _ (fun(z:JV) s H'=>H'=aH H id ver z.L∧z.L=P++z.A++x::(z.B++(R0++Q))∧z.A++z.B=S∧(∀y∈z.B,c6 c x y=true)∧s 0= .sl id ver 0 n∧s 1=iA a∧s 2=iA b∧s 3= .fn g caps∧s 8=iA ((a:Int)+1+(k:Int))∧s 9=iA ((a+z.A.length:Nat):Int)) (fun z=>z.A.length) ⟨Lk,S,[]⟩ (ar.refl _ _) ?_ ?_
  ·refine⟨rfl,by rw[hLk];simp,by simp,by simp,?_⟩
   simp -implicitDefEqProofs only[↓reduceIte,go_sem,Nat.reduceLT,Nat.reduceEqDiff,reduceCtorEq,eq_self,t0,t1,t2,t3,t8,show((a:Int)+1+(k:Int))=((a+S.length:Nat):Int) by omega]
  ·rintro⟨L1,A,B⟩ s H' ⟨rfl,hL1,hAB,hB,t0,t1,t2,t3,t8,t9⟩
   simp only at hL1 hAB hB t0 t1 t2 t3 t8 t9
   have hABl:A.length+B.length=k+1:=by rw[←List.length_append,hAB,hSl,hXl]
   have hL1n:L1.length=n:=by rw[hL1];simp;omega
   have fin:(∀y∈A,c6 c x y=false)→L1=P++(St.bN (c6 c) (X0++[x])++(R0++Q)):=fun hA=>by
    rw[hL1,←St.insert_eq ho (hAB.trans hS.symm) hB hA];simp
   obtain⟨j,hj⟩:∃j,j=a+A.length:=⟨_,rfl⟩
   rw[←hj]at t9
   have hw8:IntKind.i64.wrap ((a:Int)+1+(k:Int)+1)=(a:Int)+1+((k:Int)+1):=by rw[wrap64_in _ (by omega) (by omega)];omega
   rcases List.eq_nil_or_concat A with rfl|⟨A',z,rfl⟩
   ·have hja:((a:Int)<(j:Int))=False:=eq_false (by simp at hj;omega)
    simp -implicitDefEqProofs only[go_sem]
    refine bP K.mixed (by kernel_rfl) ?_
    simp -implicitDefEqProofs only[↓reduceIte,go_sem,Nat.reduceLT,Nat.reduceEqDiff,reduceCtorEq,eq_self,t1,t9,hja,t8,hw8]
    refine eQ.same ⟨⟨L1,rfl,fin (by simp)⟩,?_⟩
    simp -implicitDefEqProofs only[↓reduceIte,go_sem,Nat.reduceLT,Nat.reduceEqDiff,reduceCtorEq,eq_self,t0,t1,t2,t3]
   ·simp only[List.concat_eq_append,List.length_append,List.length_singleton]at hL1 hAB hj hABl fin
    have hja:((a:Int)<(j:Int))=True:=eq_true (by omega)
    obtain⟨i,hi⟩:∃i,i=a+A'.length:=⟨_,rfl⟩
    have hw9:IntKind.i64.wrap ((j:Int)-1)=(i:Int):=by rw[wrap64_in _ (by omega) (by omega)];omega
    have hL1':L1=(P++A')++z::(x::(B++(R0++Q))):=by rw[hL1];simp
    have hL1'':L1=(P++A'++[z])++x::(B++(R0++Q)):=by rw[hL1];simp
    have gz:L1[i]?=some z:=by rw[hL1'];exact get_at (by simp;omega)
    have gx:L1[j]?=some x:=by rw[hL1''];exact get_at (by simp;omega)
    have il:i<n:=by omega
    have jl:j<n:=by omega
    have st:(L1.set j z).set i x=P++A'++x::(z::B++(R0++Q)):=by
     rw[hL1'',gN (by simp;omega)]
     have:P++A'++[z]++z::(B++(R0++Q))=(P++A')++z::(z::(B++(R0++Q))):=by simp
     rw[this,gN (by simp;omega)]
     simp
    have gz':=cq gz
    have gx':=cq gx
    have gz2:((L1.set j z).map ai.enc)[i]?=some z.enc:=by
     refine cq ?_
     rw[List.getElem?_set,if_neg (by omega)];exact gz
    have s1:=fZ L1 j z
    have s2:=fZ (L1.set j z) i x
    rw[st]at s2
    have gh:=gP hid ver L1
    have hd:=hc.at ver L1 x z
    simp only[ai.enc]at gz' gx' gz2 s1 s2
    simp only[ai.enc,List.map_cons,List.map_nil]at hd
    simp -implicitDefEqProofs only[go_sem]
    refine bP K.mixed (by kernel_rfl) ?_
    simp -implicitDefEqProofs only[↓reduceIte,go_sem,ah,Nat.reduceAdd,Nat.reduceLT,Nat.reduceEqDiff,reduceCtorEq,eq_self,t0,t1,t3,t9,hja,hw9,il,jl,gh,gz',gx']
    refine ab.ok hd ?_
    by_cases hlt2:c x z<0
    ·have hltb:c6 c x z=true:=by simp[c6,hlt2]
     simp -implicitDefEqProofs only[↓reduceIte,go_sem,Nat.reduceLT,Nat.reduceEqDiff,eq_self,hlt2]
     refine jg [false,false,false,false,false,false,false,false,false,false,false,false,false,false,true,true,true,true] 14 K.mixed (by kernel_rfl) (by kernel_rfl) (by kernel_rfl) ?_
     simp -implicitDefEqProofs only[↓reduceIte,go_sem,ah,ak,Nat.reduceAdd,Nat.reduceLT,Nat.reduceEqDiff,reduceCtorEq,eq_self,t0,t9,hw9,il,jl,gh,gz',gx',nr,s1,gz2,s2,hid,List.getElem?_set_self,List.set_set]
     refine⟨_,_,⟨_,A',z::B⟩,ar.refl _ _,⟨by rw[←mb],rfl,by rw[←hAB];simp,?_,?_⟩,by simp⟩
     ·intro y hy
      rcases List.mem_cons.1 hy with rfl|hy
      ·exact hltb
      ·exact hB y hy
     ·simp -implicitDefEqProofs only[↓reduceIte,go_sem,Nat.reduceLT,Nat.reduceEqDiff,reduceCtorEq,eq_self,t0,t1,t2,t3,t8,show((a:Int)+(A'.length:Int))=(i:Int) by omega]
    ·have hltb:c6 c x z=false:=by simp[c6,hlt2]
     have hAx:∀y∈A'++[z],c6 c x y=false:=by
      intro y hy
      have hso:=hss
      rw[←hAB]at hso
      rcases List.mem_append.1 hy with hy|hy
      ·exact ho.le_trans (hso.left.z6 y hy z (by simp)) hltb
      ·simp at hy;rw[hy];exact hltb
     simp -implicitDefEqProofs only[↓reduceIte,go_sem,Nat.reduceLT,Nat.reduceEqDiff,eq_self,hlt2,t8,hw8]
     refine eQ.same ⟨⟨L1,rfl,fin hAx⟩,?_⟩
     simp -implicitDefEqProofs only[↓reduceIte,go_sem,Nat.reduceLT,Nat.reduceEqDiff,reduceCtorEq,eq_self,t0,t1,t2,t3]
 ·rintro s H' ⟨⟨Lk,rfl,hLk⟩,t0,t1,t2,t3,t8⟩
  have hlt:((a:Int)+1+((X.length-1:Nat):Int)<(b:Int))=False:=eq_false (by omega)
  simp -implicitDefEqProofs only[↓reduceIte,go_sem,Nat.reduceLT,Nat.reduceEqDiff,eq_self,t2,t8,hlt]
  have:Lk=L':=by
   rw[hLk,hL',List.take_of_length_le (by omega),List.drop_of_length_le (by omega)];simp
  rw[this]
  exact⟨_,ar.refl _ _,rfl⟩
end SV
end Go.Proofs.YtmbagpfmfiegkaaGreat
namespace Go.Proofs.YtmbagpfmfiegkaaGreat
open Go.Proofs.YtmbagpfmfiegkaaGreatAw Go.RowKit
namespace SV
theorem oP(n:Nat)(h:n≤2000000000000):IntKind.i64.wrap (iF .u64 (IntKind.u64.wrap (n:Int)) 1)=((n/2:Nat):Int):=by
 rw[aU n (by omega)]
 have:=wV n 1 (by decide)
 rw[show((1:Nat):Int)=1 from rfl]at this
 rw[this]
 exact F5 _ (by omega)
theorem rh{L P R:List ai}{x y:ai}(h:L=P++x::y::R){i:Nat}(hi:P.length=i):L[i]?=some x∧L[i+1]?=some y∧(L.set i y)[i+1]?=some y∧(L.set (i+1) x)[i]?=some x∧(L.set i y).set (i+1) x=P++y::x::R∧(L.set (i+1) x).set i y=P++y::x::R:=by
 subst h hi
 have e:P++x::y::R=(P++[x])++y::R:=by simp
 have e2:∀z:ai,P++z::y::R=(P++[z])++y::R:=by simp
 have h1:∀z:ai,(P++[z]).length=P.length+1:=by simp
 refine⟨get_at rfl,by rw[e];exact get_at (h1 x),?_,?_,?_,?_⟩
 ·rw[gN rfl,e2];exact get_at (h1 y)
 ·rw[e,gN (h1 x)]
  have:P++[x]++x::R=P++x::(x::R):=by simp
  rw[this];exact get_at rfl
 ·rw[gN rfl,e2,gN (h1 y)];simp
 ·rw[e,gN (h1 x)]
  have:P++[x]++x::R=P++x::(x::R):=by simp
  rw[this,gN rfl]
theorem GX{P X Y Q L:List ai}{a:Nat}(hL:L=P++X++Y++Q)(ha:P.length=a):∀i x,X[i]?=some x→L[a+i]?=some x:=fun i x hx=>by
 have:=(List.getElem?_eq_some_iff.1 hx).1
 rw[hL,List.append_assoc,List.append_assoc,←ha,List.getElem?_append_right (by omega),List.getElem?_append_left (by omega),Nat.add_sub_cancel_left]
 exact hx
theorem Gy{P X Y Q L:List ai}{m:Nat}(hL:L=P++X++Y++Q)(hm:P.length+X.length=m):∀i y,Y[i]?=some y→L[m+i]?=some y:=fun i y hy=>by
 have:=(List.getElem?_eq_some_iff.1 hy).1
 rw[hL,List.append_assoc (P++X),←hm,List.getElem?_append_right (by simp),List.getElem?_append_left (by simp;omega)]
 simpa[Nat.add_sub_cancel_left]using hy
theorem A2(H:aa)(id ver:Nat)(hid:id<H.length)(g:FuncId)(caps:List AV)(c:ai→ai→Int)(ho:St.Ord (c6 c))(hc:mz g caps c H id)(n:Nat)(hbig:n≤1000000000000)(P X Y Q L L':List ai)(a m b:Nat)
  (hL:L=P++X++Y++Q) (hL':L'=P++St.bN (c6 c) (X++Y)++Q) (ha:P.length=a) (hm:P.length+X.length=m) (hb:P.length+X.length+Y.length=b) (hX0:0<X.length) (hY0:0<Y.length) (hX:St.aD (c6 c) X) (hY:St.aD (c6 c) Y) (hn:L.length=n) (h1:X.length=1):
  ag Tryz.prog 180 [.sl id ver 0 n,iA a,iA m,iA b,.fn g caps] (aH H id ver L) (.ok (.bf [])) (aH H id ver L'):=by
 have hnl:P.length+X.length+Y.length+Q.length=n:=by rw[←hn,hL];simp;omega
 have w1:IntKind.i64.wrap ((m:Int)-(a:Int))=((X.length:Nat):Int):=by rw[wrap64_in _ (by omega) (by omega)];omega
 have w2:IntKind.i64.wrap ((b:Int)-(m:Int))=((Y.length:Nat):Int):=by rw[wrap64_in _ (by omega) (by omega)];omega
 have hLX:=GX hL ha
 have hLY:=Gy hL hm
 generalize hE0:aH H id ver L=E0
 have gh:=gP hid ver L
 rw[hE0]at gh
 have hcE:∀x y:ai,ag Tryz.prog g ([.agg ((ai.enc x).map .d),.agg ((ai.enc y).map .d)]++caps) E0 (.ok (iA (c x y))) E0:=fun x y=>by rw[←hE0];exact hc.at ver L x y
 refine ag.aj (hint:=(fun _=>false)) Tryz.func180 (by kernel_rfl) rfl [] (by kernel_rfl) (by decide) (by simp[Tryz.ntmps180]) ?_
 rw[Tryz.ntmps180]
 obtain⟨x,rfl⟩:∃x,X=[x]:=List.length_eq_one_iff.1 h1
 simp -implicitDefEqProofs only[↓reduceIte,go_sem,Nat.reduceLT,Nat.reduceEqDiff,eq_self,w1,h1]
 refine cC _ _ _ _ (fun(z:Nat×Nat) s H'=>H'=E0∧z.1≤z.2∧z.2≤Y.length∧(z.1=0∨∃y,Y[z.1-1]?=some y∧c6 c y x=true)∧(z.2=Y.length∨∃y,Y[z.2]?=some y∧c6 c y x=false)∧
  s 0= .sl id ver 0 n∧s 1=iA a∧s 4= .fn g caps∧s 10=iA ((m+z.1:Nat):Int)∧s 11=iA ((m+z.2:Nat):Int)) (fun z=>z.2-z.1) (0,Y.length) (ar.refl _ _) ?_ ?_
 ·refine⟨rfl,Nat.zero_le _,Nat.le_refl _,.inl rfl,.inl rfl,?_⟩
  simp -implicitDefEqProofs only[↓reduceIte,go_sem,Nat.reduceLT,Nat.reduceEqDiff,reduceCtorEq,eq_self,show m+Y.length=b by omega,Nat.add_zero]
 ·rintro⟨i,j⟩ s H' ⟨rfl,hij,hj,hlo,hhi,t0,t1,t4,t10,t11⟩
  simp only at hij hj hlo hhi t10 t11
  obtain⟨i',hi'⟩:∃i',i'=m+i:=⟨_,rfl⟩
  obtain⟨j',hj'⟩:∃j',j'=m+j:=⟨_,rfl⟩
  rw[←hi']at t10
  rw[←hj']at t11
  have f1:((m:Int)+(i:Int))=(i':Int):=by omega
  have f2:((m:Int)+(j:Int))=(j':Int):=by omega
  by_cases hlt:i<j
  ·obtain⟨q,hq⟩:∃q,q=i'+j':=⟨_,rfl⟩
   have w3:IntKind.i64.wrap ((i':Int)+(j':Int))=(q:Int):=by rw[wrap64_in _ (by omega) (by omega)];omega
   have w4:=oP q (by omega)
   obtain⟨h,hh⟩:∃h,h=q/2:=⟨_,rfl⟩
   rw[←hh]at w4
   obtain⟨y,hy⟩:∃y,Y[h-m]?=some y:=⟨_,List.getElem?_eq_getElem (show h-m<Y.length by omega)⟩
   have gy:=cq (hLY _ _ hy)
   rw[show m+(h-m)=h by omega]at gy
   have gx:=cq (hLX 0 x rfl)
   rw[Nat.add_zero]at gx
   have hd:=hcE y x
   simp only[ai.enc]at gx gy
   simp only[ai.enc,List.map_cons,List.map_nil]at hd
   have hln:h<n:=by omega
   have han:a<n:=by omega
   simp -implicitDefEqProofs only[↓reduceIte,go_sem,Nat.reduceLT,Nat.reduceEqDiff,Int.reduceLE,eq_self,t10,t11,show((i':Int)<(j':Int))=True from eq_true (by omega),w3,w4]
   refine bP K.mixed (by kernel_rfl) ?_
   simp -implicitDefEqProofs only[↓reduceIte,go_sem,ah,Nat.reduceAdd,Nat.reduceLT,Nat.reduceEqDiff,reduceCtorEq,eq_self,t0,t1,t4,gh,gx,gy,hln,han]
   refine ab.ok hd ?_
   by_cases hcc:c y x<0
   ·have hw5:IntKind.i64.wrap ((h:Int)+1)=((m+(h-m+1):Nat):Int):=by rw[wrap64_in _ (by omega) (by omega)];omega
    obtain⟨h2,hh2⟩:∃h2,h2=m+(h-m+1):=⟨_,rfl⟩
    rw[←hh2]at hw5
    simp -implicitDefEqProofs only[↓reduceIte,go_sem,Nat.reduceLT,Nat.reduceEqDiff,eq_self,hcc,hw5]
    refine⟨_,_,(h-m+1,j),ar.refl _ _,⟨rfl,by simp only;omega,hj,.inr ⟨y,by simpa using hy,by simp[c6,hcc]⟩,hhi,?_⟩,by simp only;omega⟩
    simp -implicitDefEqProofs only[↓reduceIte,go_sem,Nat.reduceLT,Nat.reduceEqDiff,reduceCtorEq,eq_self,t0,t1,t4,t11,show((m:Int)+(((h-m:Nat):Int)+1))=(h2:Int) by omega,f2]
   ·simp -implicitDefEqProofs only[↓reduceIte,go_sem,Nat.reduceLT,Nat.reduceEqDiff,eq_self,hcc]
    refine⟨_,_,(i,h-m),ar.refl _ _,⟨rfl,by simp only;omega,by simp only;omega,hlo,.inr ⟨y,hy,by simp[c6,hcc]⟩,?_⟩,by simp only;omega⟩
    simp -implicitDefEqProofs only[↓reduceIte,go_sem,Nat.reduceLT,Nat.reduceEqDiff,reduceCtorEq,eq_self,t0,t1,t4,t10,show((m:Int)+((h-m:Nat):Int))=(h:Int) by omega,f1]
  ·obtain rfl:j=i:=by omega
   have hmg:=St.Bd ho hY hj hlo hhi
   have hw6:IntKind.i64.wrap ((i':Int)-1)=(i':Int)-1:=wrap64_in _ (by omega) (by omega)
   simp -implicitDefEqProofs only[↓reduceIte,go_sem,Nat.reduceLT,Nat.reduceEqDiff,eq_self,t10,t11,show((i':Int)<(j':Int))=False from eq_false (by omega),t1]
   refine fM (fun k s H'=>(∃Lk,H'=aH H id ver Lk∧Lk=P++Y.take k++x::(Y.drop k++Q))∧s 0= .sl id ver 0 n∧s 10=iA i'∧s 13=iA ((a:Int)+(k:Int))) j (by omega) (ar.refl _ _) ?_ ?_ ?_
   ·refine⟨⟨L,hE0.symm,by rw[hL];simp⟩,?_⟩
    simp -implicitDefEqProofs only[↓reduceIte,go_sem,Nat.reduceLT,Nat.reduceEqDiff,reduceCtorEq,eq_self,t0,t10,Int.add_zero]
   ·rintro k s H' hk hw ⟨⟨Lk,rfl,hLk⟩,t0,t10,t13⟩
    have hkY:k<Y.length:=by omega
    have e1:Y.drop k=Y[k]::Y.drop (k+1):=List.drop_eq_getElem_cons hkY
    have e2:Y.take (k+1)=Y.take k++[Y[k]]:=List.take_succ_eq_append_getElem hkY
    rw[e1]at hLk
    rw[e2]
    have l1:(P++Y.take k).length=a+k:=by simp;omega
    generalize Y[k]=y at*
    generalize Y.drop (k+1)=Y1 at*
    generalize Y.take k=Y0 at*
    obtain⟨u,hu⟩:∃u,u=a+k:=⟨_,rfl⟩
    obtain⟨v,hv⟩:∃v,v=u+1:=⟨_,rfl⟩
    rw[←hu]at l1
    obtain⟨g1,g2,g3,_,g5,_⟩:=rh (L:=Lk) (P:=P++Y0) (x:=x) (y:=y) (R:=Y1++Q) (by rw[hLk];simp) l1
    rw[←hv]at g2 g3 g5
    have f3:((a:Int)+(k:Int))=(u:Int):=by omega
    have hw7:IntKind.i64.wrap ((u:Int)+1)=(v:Int):=by rw[wrap64_in _ (by omega) (by omega)];omega
    rw[f3]at t13
    have gg:=gP hid ver Lk
    have q1:=cq g1
    have q2:=cq g2
    have q3:=cq g3
    have s1:=fZ Lk u y
    have s2:=fZ (Lk.set u y) v x
    rw[g5]at s2
    have hun:u<n:=by omega
    have hvn:v<n:=by omega
    simp only[ai.enc]at q1 q2 q3 s1 s2
    simp -implicitDefEqProofs only[↓reduceIte,go_sem,Nat.reduceLT,Nat.reduceEqDiff,eq_self,t10,t13,hw6,show((u:Int)<(i':Int)-1)=True from eq_true (by omega)]
    refine jg [false,false,false,false,false,false,false,false,false,false,false,false,false,false,true,true,true,true] 14 K.mixed (by kernel_rfl) (by kernel_rfl) (by kernel_rfl) ?_
    simp -implicitDefEqProofs only[↓reduceIte,go_sem,ah,ak,Nat.reduceAdd,Nat.reduceLT,Nat.reduceEqDiff,reduceCtorEq,eq_self,t0,t13,hw7,hun,hvn,gg,q1,q2,q3,s1,s2,nr,hid,List.getElem?_set_self,List.set_set]
    refine eQ.same ⟨⟨_,by rw[←mb],by simp⟩,?_⟩
    simp -implicitDefEqProofs only[↓reduceIte,go_sem,Nat.reduceLT,Nat.reduceEqDiff,reduceCtorEq,eq_self,t0,t10,show((a:Int)+((k:Int)+1))=(v:Int) by omega]
   ·rintro s H' ⟨⟨Lk,rfl,hLk⟩,t0,t10,t13⟩
    simp -implicitDefEqProofs only[↓reduceIte,go_sem,Nat.reduceLT,Nat.reduceEqDiff,eq_self,t10,t13,hw6,show((a:Int)+(j:Int)<(i':Int)-1)=False from eq_false (by omega)]
    have:Lk=L':=by rw[hLk,hL',List.singleton_append,←hmg];simp
    rw[this]
    exact⟨_,ar.refl _ _,rfl⟩
theorem AB(H:aa)(id ver:Nat)(hid:id<H.length)(g:FuncId)(caps:List AV)(c:ai→ai→Int)(ho:St.Ord (c6 c))(hc:mz g caps c H id)(n:Nat)(hbig:n≤1000000000000)(P X Y Q L L':List ai)(a m b:Nat)
  (hL:L=P++X++Y++Q) (hL':L'=P++St.bN (c6 c) (X++Y)++Q) (ha:P.length=a) (hm:P.length+X.length=m) (hb:P.length+X.length+Y.length=b) (hX0:0<X.length) (hY0:0<Y.length) (hX:St.aD (c6 c) X) (hY:St.aD (c6 c) Y) (hn:L.length=n) (h1:¬X.length=1) (h2:Y.length=1):
  ag Tryz.prog 180 [.sl id ver 0 n,iA a,iA m,iA b,.fn g caps] (aH H id ver L) (.ok (.bf [])) (aH H id ver L'):=by
 have hnl:P.length+X.length+Y.length+Q.length=n:=by rw[←hn,hL];simp;omega
 have w1:IntKind.i64.wrap ((m:Int)-(a:Int))=((X.length:Nat):Int):=by rw[wrap64_in _ (by omega) (by omega)];omega
 have w2:IntKind.i64.wrap ((b:Int)-(m:Int))=((Y.length:Nat):Int):=by rw[wrap64_in _ (by omega) (by omega)];omega
 have hLX:=GX hL ha
 have hLY:=Gy hL hm
 generalize hE0:aH H id ver L=E0
 have gh:=gP hid ver L
 rw[hE0]at gh
 have hcE:∀x y:ai,ag Tryz.prog g ([.agg ((ai.enc x).map .d),.agg ((ai.enc y).map .d)]++caps) E0 (.ok (iA (c x y))) E0:=fun x y=>by rw[←hE0];exact hc.at ver L x y
 refine ag.aj (hint:=(fun _=>false)) Tryz.func180 (by kernel_rfl) rfl [] (by kernel_rfl) (by decide) (by simp[Tryz.ntmps180]) ?_
 rw[Tryz.ntmps180]
 obtain⟨y,rfl⟩:∃y,Y=[y]:=List.length_eq_one_iff.1 h2
 simp -implicitDefEqProofs only[↓reduceIte,go_sem,Nat.reduceLT,Nat.reduceEqDiff,eq_self,w1,w2,show(((X.length:Nat):Int)=1)=False from eq_false (by omega),h2]
 refine cC _ _ _ _ (fun(z:Nat×Nat) s H'=>H'=E0∧z.1≤z.2∧z.2≤X.length∧(z.1=0∨∃x,X[z.1-1]?=some x∧c6 c y x=false)∧(z.2=X.length∨∃x,X[z.2]?=some x∧c6 c y x=true)∧
  s 0= .sl id ver 0 n∧s 2=iA m∧s 4= .fn g caps∧s 14=iA ((a+z.1:Nat):Int)∧s 15=iA ((a+z.2:Nat):Int)) (fun z=>z.2-z.1) (0,X.length) (ar.refl _ _) ?_ ?_
 ·refine⟨rfl,Nat.zero_le _,Nat.le_refl _,.inl rfl,.inl rfl,?_⟩
  simp -implicitDefEqProofs only[↓reduceIte,go_sem,Nat.reduceLT,Nat.reduceEqDiff,reduceCtorEq,eq_self,show((a:Int)+((X.length:Nat):Int))=(m:Int) by omega,Nat.add_zero]
 ·rintro⟨i,j⟩ s H' ⟨rfl,hij,hj,hlo,hhi,t0,t2,t4,t14,t15⟩
  simp only at hij hj hlo hhi t14 t15
  obtain⟨i',hi'⟩:∃i',i'=a+i:=⟨_,rfl⟩
  obtain⟨j',hj'⟩:∃j',j'=a+j:=⟨_,rfl⟩
  rw[←hi']at t14
  rw[←hj']at t15
  have f1:((a:Int)+(i:Int))=(i':Int):=by omega
  have f2:((a:Int)+(j:Int))=(j':Int):=by omega
  by_cases hlt:i<j
  ·obtain⟨q,hq⟩:∃q,q=i'+j':=⟨_,rfl⟩
   have w3:IntKind.i64.wrap ((i':Int)+(j':Int))=(q:Int):=by rw[wrap64_in _ (by omega) (by omega)];omega
   have w4:=oP q (by omega)
   obtain⟨h,hh⟩:∃h,h=q/2:=⟨_,rfl⟩
   rw[←hh]at w4
   obtain⟨x,hx⟩:∃x,X[h-a]?=some x:=⟨_,List.getElem?_eq_getElem (show h-a<X.length by omega)⟩
   have gx:=cq (hLX _ _ hx)
   rw[show a+(h-a)=h by omega]at gx
   have gy:=cq (hLY 0 y rfl)
   rw[Nat.add_zero]at gy
   have hd:=hcE y x
   simp only[ai.enc]at gx gy
   simp only[ai.enc,List.map_cons,List.map_nil]at hd
   have hln:h<n:=by omega
   have hmn:m<n:=by omega
   simp -implicitDefEqProofs only[↓reduceIte,go_sem,Nat.reduceLT,Nat.reduceEqDiff,Int.reduceLE,eq_self,t14,t15,show((i':Int)<(j':Int))=True from eq_true (by omega),w3,w4]
   refine bP K.mixed (by kernel_rfl) ?_
   simp -implicitDefEqProofs only[↓reduceIte,go_sem,ah,Nat.reduceAdd,Nat.reduceLT,Nat.reduceEqDiff,reduceCtorEq,eq_self,t0,t2,t4,gh,gx,gy,hln,hmn]
   refine ab.ok hd ?_
   by_cases hcc:c y x<0
   ·simp -implicitDefEqProofs only[↓reduceIte,go_sem,Nat.reduceLT,Nat.reduceEqDiff,eq_self,hcc]
    refine⟨_,_,(i,h-a),ar.refl _ _,⟨rfl,by simp only;omega,by simp only;omega,hlo,.inr ⟨x,hx,by simp[c6,hcc]⟩,?_⟩,by simp only;omega⟩
    simp -implicitDefEqProofs only[↓reduceIte,go_sem,Nat.reduceLT,Nat.reduceEqDiff,reduceCtorEq,eq_self,t0,t2,t4,t14,show((a:Int)+((h-a:Nat):Int))=(h:Int) by omega,f1]
   ·have hw5:IntKind.i64.wrap ((h:Int)+1)=((a+(h-a+1):Nat):Int):=by rw[wrap64_in _ (by omega) (by omega)];omega
    obtain⟨h2,hh2⟩:∃h2,h2=a+(h-a+1):=⟨_,rfl⟩
    rw[←hh2]at hw5
    simp -implicitDefEqProofs only[↓reduceIte,go_sem,Nat.reduceLT,Nat.reduceEqDiff,eq_self,hcc,hw5]
    refine⟨_,_,(h-a+1,j),ar.refl _ _,⟨rfl,by simp only;omega,hj,.inr ⟨x,by simpa using hx,by simp[c6,hcc]⟩,hhi,?_⟩,by simp only;omega⟩
    simp -implicitDefEqProofs only[↓reduceIte,go_sem,Nat.reduceLT,Nat.reduceEqDiff,reduceCtorEq,eq_self,t0,t2,t4,t15,show((a:Int)+(((h-a:Nat):Int)+1))=(h2:Int) by omega,f2]
  ·obtain rfl:j=i:=by omega
   have hmg:=St.xZ ho hX hj hhi hlo
   simp -implicitDefEqProofs only[↓reduceIte,go_sem,Nat.reduceLT,Nat.reduceEqDiff,eq_self,t14,t15,show((i':Int)<(j':Int))=False from eq_false (by omega),t2]
   refine cC _ _ _ _ (fun(k:Nat) s H'=>k≤X.length-j∧(∃Lk,H'=aH H id ver Lk∧Lk=P++X.take (j+k)++y::(X.drop (j+k)++Q))∧s 0= .sl id ver 0 n∧s 14=iA i'∧s 17=iA ((i':Int)+(k:Int))) (fun k=>k) (X.length-j) (ar.refl _ _) ?_ ?_
   ·refine⟨Nat.le_refl _,⟨L,hE0.symm,?_⟩,?_⟩
    ·rw[show j+(X.length-j)=X.length by omega,List.take_length,List.drop_length,hL];simp
    ·simp -implicitDefEqProofs only[↓reduceIte,go_sem,Nat.reduceLT,Nat.reduceEqDiff,reduceCtorEq,eq_self,t0,t14,show((i':Int)+((X.length-j:Nat):Int))=(m:Int) by omega]
   ·rintro k s H' ⟨hkx,⟨Lk,rfl,hLk⟩,t0,t14,t17⟩
    cases k with
    |zero=>
     simp -implicitDefEqProofs only[↓reduceIte,go_sem,Nat.reduceLT,Nat.reduceEqDiff,eq_self,t14,t17,Int.add_zero,Int.lt_irrefl]
     have:Lk=L':=by rw[hLk,hL',Nat.add_zero,←hmg];simp
     rw[this]
     exact⟨_,ar.refl _ _,rfl⟩
    |succ k=>
     have hkX:j+k<X.length:=by omega
     have e1:X.drop (j+k)=X[j+k]::X.drop (j+k+1):=List.drop_eq_getElem_cons hkX
     have e2:X.take (j+k+1)=X.take (j+k)++[X[j+k]]:=List.take_succ_eq_append_getElem hkX
     rw[show j+(k+1)=j+k+1 by omega,e2]at hLk
     have l1:(P++X.take (j+k)).length=i'+k:=by simp;omega
     obtain⟨u,hu⟩:∃u,u=i'+k:=⟨_,rfl⟩
     obtain⟨v,hv⟩:∃v,v=u+1:=⟨_,rfl⟩
     rw[←hu]at l1
     have fk:((i':Int)+((k+1:Nat):Int))=(v:Int):=by omega
     have fk2:((i':Int)+(k:Int))=(u:Int):=by omega
     rw[fk]at t17
     generalize X[j+k]=x at*
     generalize X.drop (j+k+1)=X1 at*
     obtain⟨g1,g2,_,g4,_,g6⟩:=rh (L:=Lk) (P:=P++X.take (j+k)) (x:=x) (y:=y) (R:=X1++Q) (by rw[hLk];simp) l1
     rw[←hv]at g2 g4 g6
     have hw7:IntKind.i64.wrap ((v:Int)-1)=(u:Int):=by rw[wrap64_in _ (by omega) (by omega)];omega
     have gg:=gP hid ver Lk
     have q1:=cq g1
     have q2:=cq g2
     have q4:=cq g4
     have s1:=fZ Lk v x
     have s2:=fZ (Lk.set v x) u y
     rw[g6]at s2
     have hun:u<n:=by omega
     have hvn:v<n:=by omega
     simp only[ai.enc]at q1 q2 q4 s1 s2
     simp -implicitDefEqProofs only[↓reduceIte,go_sem,Nat.reduceLT,Nat.reduceEqDiff,eq_self,t14,t17,show((i':Int)<(v:Int))=True from eq_true (by omega)]
     refine jg [false,false,false,false,false,false,false,false,false,false,false,false,false,false,true,true,true,true] 14 K.mixed (by kernel_rfl) (by kernel_rfl) (by kernel_rfl) ?_
     simp -implicitDefEqProofs only[↓reduceIte,go_sem,ah,ak,Nat.reduceAdd,Nat.reduceLT,Nat.reduceEqDiff,reduceCtorEq,eq_self,t0,t17,hw7,hun,hvn,gg,q1,q2,q4,s1,s2,nr,hid,List.getElem?_set_self,List.set_set]
     refine⟨_,_,k,ar.refl _ _,⟨by omega,⟨_,by rw[←mb],by rw[e1];simp⟩,?_⟩,by omega⟩
     simp -implicitDefEqProofs only[↓reduceIte,go_sem,Nat.reduceLT,Nat.reduceEqDiff,reduceCtorEq,eq_self,t0,t14,fk2]
end SV
end Go.Proofs.YtmbagpfmfiegkaaGreat
namespace Go.Proofs.YtmbagpfmfiegkaaGreat
open Go.Proofs.YtmbagpfmfiegkaaGreatAw Go.RowKit
namespace SV
def Hid(p:Prop):Prop:=p
theorem AD{a m b q mid n0 s0 r0 lx ly:Nat}(hm:a+lx=m)(hb:a+lx+ly=b)(hq:q=a+b)(hmid:mid=q/2)(hn0:n0=mid+m)(hs0:s0=if mid<m then n0-b else a)(hr0:r0=if mid<m then mid else m)(hx:0<lx)(hy:0<ly)(h1:¬lx=1):
  (s0≤r0∧a≤s0∧r0≤m∧r0≤mid)∧(n0≤b+s0∧mid<b∧a<mid)∧Hid (r0=m∨n0=m+r0)∧Hid (s0=a∨n0=b+s0)∧m+r0≤n0∧(mid<m→b≤n0):=by
 by_cases h:mid<m
 ·rw[if_pos h]at hs0 hr0;unfold Hid;omega
 ·rw[if_neg h]at hs0 hr0;unfold Hid;omega
theorem Bb(H:aa)(id ver:Nat)(hid:id<H.length)(g:FuncId)(caps:List AV)(c:ai→ai→Int)(ho:St.Ord (c6 c))(hc:mz g caps c H id)(n:Nat)(hbig:n≤1000000000000)(P X Y Q L L':List ai)(a m b:Nat)
  (hL:L=P++X++Y++Q) (hL':L'=P++St.bN (c6 c) (X++Y)++Q) (ha:P.length=a) (hm:P.length+X.length=m) (hb:P.length+X.length+Y.length=b) (hX0:0<X.length) (hY0:0<Y.length) (hX:St.aD (c6 c) X) (hY:St.aD (c6 c) Y) (hn:L.length=n) (h1:¬X.length=1) (h2:¬Y.length=1)
  (ih:∀(P' X' Y' Q' L1 L2:List ai) (a' m' b':Nat),X'.length+Y'.length<X.length+Y.length→L1=P'++X'++Y'++Q'→L2=P'++St.bN (c6 c) (X'++Y')++Q'→P'.length=a'→P'.length+X'.length=m'→P'.length+X'.length+Y'.length=b'→0<X'.length→0<Y'.length→
   St.aD (c6 c) X'→St.aD (c6 c) Y'→L1.length=n→ag Tryz.prog 180 [.sl id ver 0 n,iA a',iA m',iA b',.fn g caps] (aH H id ver L1) (.ok (.bf [])) (aH H id ver L2)):
  ag Tryz.prog 180 [.sl id ver 0 n,iA a,iA m,iA b,.fn g caps] (aH H id ver L) (.ok (.bf [])) (aH H id ver L'):=by
 have hnl:P.length+X.length+Y.length+Q.length=n:=by rw[←hn,hL];simp;omega
 have w1:IntKind.i64.wrap ((m:Int)-(a:Int))=((X.length:Nat):Int):=by rw[wrap64_in _ (by omega) (by omega)];omega
 have w2:IntKind.i64.wrap ((b:Int)-(m:Int))=((Y.length:Nat):Int):=by rw[wrap64_in _ (by omega) (by omega)];omega
 have hLX:=GX hL ha
 have hLY:=Gy hL hm
 generalize hE0:aH H id ver L=E0
 have gh:=gP hid ver L
 rw[hE0]at gh
 have hcE:∀x y:ai,ag Tryz.prog g ([.agg ((ai.enc x).map .d),.agg ((ai.enc y).map .d)]++caps) E0 (.ok (iA (c x y))) E0:=fun x y=>by rw[←hE0];exact hc.at ver L x y
 refine ag.aj (hint:=(fun _=>false)) Tryz.func180 (by kernel_rfl) rfl [] (by kernel_rfl) (by decide) (by simp[Tryz.ntmps180]) ?_
 rw[Tryz.ntmps180]
 obtain⟨q,hq⟩:∃q,q=a+b:=⟨_,rfl⟩
 obtain⟨mid,hmid⟩:∃mid,mid=q/2:=⟨_,rfl⟩
 obtain⟨n0,hn0⟩:∃n0,n0=mid+m:=⟨_,rfl⟩
 obtain⟨p,hp⟩:∃p,p=n0-1:=⟨_,rfl⟩
 have w3:IntKind.i64.wrap ((a:Int)+(b:Int))=(q:Int):=by rw[wrap64_in _ (by omega) (by omega)];omega
 have w4:=oP q (by omega)
 rw[←hmid]at w4
 have w5:IntKind.i64.wrap ((mid:Int)+(m:Int))=(n0:Int):=by rw[wrap64_in _ (by omega) (by omega)];omega
 have w6:IntKind.i64.wrap ((n0:Int)-1)=(p:Int):=by rw[wrap64_in _ (by omega) (by omega)];omega
 obtain⟨s0,hs0⟩:∃s0,s0=if mid<m then n0-b else a:=⟨_,rfl⟩
 obtain⟨r0,hr0⟩:∃r0,r0=if mid<m then mid else m:=⟨_,rfl⟩
 obtain⟨a1,a2,a3,a4,a5,a6⟩:=AD (by omega) (by omega) hq hmid hn0 hs0 hr0 hX0 hY0 h1
 have w7:mid<m→IntKind.i64.wrap ((n0:Int)-(b:Int))=(s0:Int):=fun h=>by have:=a6 h;rw[if_pos h]at hs0;rw[wrap64_in _ (by omega) (by omega)];omega
 simp -implicitDefEqProofs only[↓reduceIte,go_sem,Nat.reduceLT,Nat.reduceEqDiff,Int.reduceLE,eq_self,w1,w2,show(((X.length:Nat):Int)=1)=False from eq_false (by omega),show(((Y.length:Nat):Int)=1)=False from eq_false (by omega),w3,w4,w5]
 refine Az (fun s H'=>H'=E0∧s 0= .sl id ver 0 n∧s 1=iA a∧s 2=iA m∧s 3=iA b∧s 4= .fn g caps∧s 18=iA mid∧s 19=iA n0∧s 20=iA s0∧s 21=iA r0) rfl ?_ ?_
 ·by_cases hmm:mid<m
  ·simp -implicitDefEqProofs only[↓reduceIte,go_sem,Nat.reduceLT,Nat.reduceEqDiff,reduceCtorEq,eq_self,eq_true hmm,w7 hmm]
   rw[hr0,if_pos hmm]
  ·simp -implicitDefEqProofs only[↓reduceIte,go_sem,Nat.reduceLT,Nat.reduceEqDiff,reduceCtorEq,eq_self,eq_false hmm]
   rw[hs0,hr0,if_neg hmm,if_neg hmm]
   exact⟨rfl,rfl⟩
 ·clear hs0 hr0 w3 w4 w5 w7 a6 hmid
  rintro s H' ⟨rfl,t0,t1,t2,t3,t4,t18,t19,t20,t21⟩
  simp -implicitDefEqProofs only[↓reduceIte,go_sem,Nat.reduceLT,eq_self,t19,w6]
  refine pJ (fun s H1=>H1=H'∧(∃st,s0≤st∧st≤r0∧Hid (st=s0∨∃x y,X[st-1-a]?=some x∧Y[n0-st-m]?=some y∧c6 c y x=false)∧Hid (st=r0∨∃x y,X[st-a]?=some x∧Y[p-st-m]?=some y∧c6 c y x=true)∧s 20=iA st)∧
   s 0= .sl id ver 0 n∧s 1=iA a∧s 2=iA m∧s 3=iA b∧s 4= .fn g caps∧s 18=iA mid∧s 19=iA n0) rfl ?_ ?_
  ·refine cC _ _ _ _ (fun(z:Nat×Nat) s H1=>H1=H'∧s0≤z.1∧z.1≤z.2∧z.2≤r0∧Hid (z.1=s0∨∃x y,X[z.1-1-a]?=some x∧Y[n0-z.1-m]?=some y∧c6 c y x=false)∧Hid (z.2=r0∨∃x y,X[z.2-a]?=some x∧Y[p-z.2-m]?=some y∧c6 c y x=true)∧
    s 0= .sl id ver 0 n∧s 1=iA a∧s 2=iA m∧s 3=iA b∧s 4= .fn g caps∧s 18=iA mid∧s 19=iA n0∧s 20=iA z.1∧s 21=iA z.2∧s 22=iA p) (fun z=>z.2-z.1) (s0,r0) (ar.refl _ _) ?_ ?_
   ·refine⟨rfl,Nat.le_refl _,a1.1,Nat.le_refl _,.inl rfl,.inl rfl,?_⟩
    simp -implicitDefEqProofs only[↓reduceIte,go_sem,Nat.reduceLT,Nat.reduceEqDiff,reduceCtorEq,eq_self,t0,t1,t2,t3,t4,t18,t19,t20,t21]
   ·rintro⟨i,j⟩ s H1 ⟨rfl,hi0,hij,hj0,hlo,hhi,t0,t1,t2,t3,t4,t18,t19,t20,t21,t22⟩
    simp only at hi0 hij hj0 hlo hhi t20 t21
    by_cases hlt:i<j
    ·obtain⟨qq,hqq⟩:∃qq,qq=i+j:=⟨_,rfl⟩
     have v3:IntKind.i64.wrap ((i:Int)+(j:Int))=(qq:Int):=by rw[wrap64_in _ (by omega) (by omega)];omega
     have v4:=oP qq (by omega)
     obtain⟨h,hh⟩:∃h,h=qq/2:=⟨_,rfl⟩
     rw[←hh]at v4
     have hpc:m≤p-h∧p-h<b∧h<m∧a≤h:=by omega
     obtain⟨pc,hpc2⟩:∃pc,pc=p-h:=⟨_,rfl⟩
     have v5:IntKind.i64.wrap ((p:Int)-(h:Int))=(pc:Int):=by rw[wrap64_in _ (by omega) (by omega)];omega
     obtain⟨x,hx⟩:∃x,X[h-a]?=some x:=⟨_,List.getElem?_eq_getElem (show h-a<X.length by omega)⟩
     obtain⟨y,hy⟩:∃y,Y[pc-m]?=some y:=⟨_,List.getElem?_eq_getElem (show pc-m<Y.length by omega)⟩
     have gx:=cq (hLX _ _ hx)
     rw[show a+(h-a)=h by omega]at gx
     have gy:=cq (hLY _ _ hy)
     rw[show m+(pc-m)=pc by omega]at gy
     have hd:=hcE y x
     simp only[ai.enc]at gx gy
     simp only[ai.enc,List.map_cons,List.map_nil]at hd
     have hln:h<n:=by omega
     have hpn:pc<n:=by omega
     simp -implicitDefEqProofs only[↓reduceIte,go_sem,Nat.reduceLT,Nat.reduceEqDiff,Int.reduceLE,eq_self,t20,t21,eq_true hlt,v3,v4]
     refine bP K.mixed (by kernel_rfl) ?_
     simp -implicitDefEqProofs only[↓reduceIte,go_sem,ah,Nat.reduceAdd,Nat.reduceLT,Nat.reduceEqDiff,reduceCtorEq,eq_self,t0,t4,t22,gh,gx,gy,hln,hpn,v5]
     refine ab.ok hd ?_
     by_cases hcc:c y x<0
     ·simp -implicitDefEqProofs only[↓reduceIte,go_sem,Nat.reduceLT,Nat.reduceEqDiff,eq_self,hcc]
      refine⟨_,_,(i,h),ar.refl _ _,⟨rfl,hi0,by simp only;omega,by simp only;omega,hlo,.inr ⟨x,y,hx,by rw[←hpc2];exact hy,by simp[c6,hcc]⟩,?_⟩,by simp only;omega⟩
      simp -implicitDefEqProofs only[↓reduceIte,go_sem,Nat.reduceLT,Nat.reduceEqDiff,reduceCtorEq,eq_self,t0,t1,t2,t3,t4,t18,t19,t20,t22]
     ·have v6:IntKind.i64.wrap ((h:Int)+1)=(h:Int)+1:=wrap64_in _ (by omega) (by omega)
      simp -implicitDefEqProofs only[↓reduceIte,go_sem,Nat.reduceLT,Nat.reduceEqDiff,eq_self,hcc,v6]
      refine⟨_,_,(h+1,j),ar.refl _ _,⟨rfl,by simp only;omega,by simp only;omega,hj0,.inr ⟨x,y,by simpa using hx,by rw[show n0-(h+1)-m=pc-m by omega];exact hy,by simp[c6,hcc]⟩,hhi,?_⟩,by simp only;omega⟩
      simp -implicitDefEqProofs only[↓reduceIte,go_sem,Nat.reduceLT,Nat.reduceEqDiff,reduceCtorEq,eq_self,t0,t1,t2,t3,t4,t18,t19,t21,t22]
    ·obtain rfl:j=i:=by omega
     simp -implicitDefEqProofs only[↓reduceIte,go_sem,Nat.reduceLT,Nat.reduceEqDiff,reduceCtorEq,eq_self,t20,t21,Nat.lt_irrefl]
     exact⟨⟨j,hi0,hj0,hlo,hhi,rfl⟩,t0,t1,t2,t3,t4,t18,t19⟩
  ·rintro s H1 ⟨rfl,⟨st,hst0,hst1,hlo,hhi,t20⟩,t0,t1,t2,t3,t4,t18,t19⟩
   clear w6
   obtain⟨e,he⟩:∃e,e=n0-st:=⟨_,rfl⟩
   obtain⟨sX,hsX⟩:∃sX,sX=st-a:=⟨_,rfl⟩
   obtain⟨eY,heY⟩:∃eY,eY=e-m:=⟨_,rfl⟩
   have w8:IntKind.i64.wrap ((n0:Int)-(st:Int))=(e:Int):=by rw[wrap64_in _ (by omega) (by omega)];omega
   have b1:sX≤X.length∧eY≤Y.length∧m≤e∧e≤b∧mid=st+eY∧e=mid+(m-st):=by omega
   have hcut:=St.rq ho hX hY (s:=sX) (e:=eY) b1.1 b1.2.1 ?_ ?_
   rotate_left
   ·rcases hhi with h|⟨x,y,hx,hy,h⟩
    ·rcases a3 with h3|h3
     ·exact .inl (by omega)
     ·exact .inr (.inl (by omega))
    ·exact .inr (.inr ⟨x,y,by rw[hsX];exact hx,by rw[show eY-1=p-st-m by omega];exact hy,h⟩)
   ·rcases hlo with h|⟨x,y,hx,hy,h⟩
    ·rcases a4 with h4|h4
     ·exact .inl (by omega)
     ·exact .inr (.inl (by omega))
    ·exact .inr (.inr ⟨x,y,by rw[show sX-1=st-1-a by omega];exact hx,by rw[show eY=n0-st-m by omega];exact hy,h⟩)
   have hXs:=hX
   have hYs:=hY
   have eX:X.take sX++X.drop sX=X:=List.take_append_drop _ _
   have eY':Y.take eY++Y.drop eY=Y:=List.take_append_drop _ _
   have lA:(X.take sX).length=sX:=by rw[List.length_take];omega
   have lU:(X.drop sX).length=X.length-sX:=List.length_drop
   have lV:(Y.take eY).length=eY:=by rw[List.length_take];omega
   have lB:(Y.drop eY).length=Y.length-eY:=List.length_drop
   rw[←eX]at hXs
   rw[←eY']at hYs
   have sA:=hXs.left
   have sU:=hXs.right
   have sV:=hYs.left
   have sB:=hYs.right
   clear hXs hYs hlo hhi a3 a4
   generalize hA:X.take sX=A at*
   generalize hU:X.drop sX=U at*
   generalize hV:Y.take eY=V at*
   generalize hB:Y.drop eY=B at*
   have hLL:L=P++A++U++V++(B++Q):=by rw[hL,←eX,←eY'];simp
   obtain⟨L1,hL1⟩:∃L1,L1=P++A++V++U++(B++Q):=⟨_,rfl⟩
   obtain⟨L2,hL2⟩:∃L2,L2=P++St.bN (c6 c) (A++V)++U++B++Q:=⟨_,rfl⟩
   have hL3:L'=P++St.bN (c6 c) (A++V)++St.bN (c6 c) (U++B)++Q:=by rw[hL',←hcut];simp
   have n1:L1.length=n:=by rw[←hn,hLL,hL1];simp;omega
   have n2:L2.length=n:=by rw[←hn,hLL,hL2];simp[St.cG];omega
   rw[gi]
   refine mj (fun s H2=>H2=aH H id ver L∧s 0= .sl id ver 0 n∧s 1=iA a∧s 2=iA m∧s 3=iA b∧s 4= .fn g caps∧s 18=iA mid∧s 20=iA st∧s 24=iA e) rfl (by simp -implicitDefEqProofs only[↓reduceIte,go_sem,Nat.reduceLT,Nat.reduceEqDiff,reduceCtorEq,eq_self,t0,t1,t2,t3,t4,t18,t19,t20,w8,hE0]) ?_
   rintro s H2 ⟨rfl,t0,t1,t2,t3,t4,t18,t20,t24⟩
   rw[gi]
   refine mj (fun s H2=>H2=aH H id ver L1∧s 0= .sl id ver 0 n∧s 1=iA a∧s 2=iA m∧s 3=iA b∧s 4= .fn g caps∧s 18=iA mid∧s 20=iA st∧s 24=iA e) rfl ?_ ?_
   ·have same:U=[]∨V=[]→aH H id ver L=aH H id ver L1:=fun h=>by
     rw[hL1,hLL];rcases h with rfl|rfl<;>simp
    by_cases c1:st<m
    ·by_cases c2:m<e
     ·simp -implicitDefEqProofs only[↓reduceIte,go_sem,Nat.reduceLT,Nat.reduceEqDiff,reduceCtorEq,eq_self,t2,t20,t24,eq_true c1,eq_true c2]
      simp -implicitDefEqProofs only[go_sem,t0,t4]
      refine ab.ok (wu H id ver hid g caps (P++A) U V (B++Q) L L1 hLL (by rw[hL1]) st m e n (by simp;omega) (by simp;omega) (by simp;omega) (by omega) (by omega) hn hbig) ?_
      simp -implicitDefEqProofs only[↓reduceIte,go_sem,Nat.reduceEqDiff,reduceCtorEq,eq_self,t0,t1,t2,t3,t4,t18,t20,t24]
     ·simp -implicitDefEqProofs only[↓reduceIte,go_sem,Nat.reduceLT,Nat.reduceEqDiff,reduceCtorEq,eq_self,t2,t20,t24,eq_true c1,eq_false c2]
      simp -implicitDefEqProofs only[go_sem,eq_self,t0,t1,t3,t4,t18]
      exact same (.inr (List.eq_nil_of_length_eq_zero (by omega)))
    ·simp -implicitDefEqProofs only[↓reduceIte,go_sem,Nat.reduceLT,Nat.reduceEqDiff,reduceCtorEq,eq_self,t2,t20,t24,eq_false c1]
     simp -implicitDefEqProofs only[go_sem,eq_self,t0,t1,t3,t4,t18]
     exact same (.inl (List.eq_nil_of_length_eq_zero (by omega)))
   rintro s H2 ⟨rfl,t0,t1,t2,t3,t4,t18,t20,t24⟩
   rw[gi]
   refine mj (fun s H2=>H2=aH H id ver L2∧s 0= .sl id ver 0 n∧s 3=iA b∧s 4= .fn g caps∧s 18=iA mid∧s 24=iA e) rfl ?_ ?_
   ·have same:A=[]∨V=[]→aH H id ver L1=aH H id ver L2:=fun h=>by
     have:St.bN (c6 c) (A++V)=A++V:=by
      rcases h with rfl|rfl
      ·simpa using St.eC ho sV
      ·simpa using St.eC ho sA
     rw[hL1,hL2,this];simp
    by_cases c1:a<st
    ·by_cases c2:st<mid
     ·simp -implicitDefEqProofs only[↓reduceIte,go_sem,Nat.reduceLT,Nat.reduceEqDiff,reduceCtorEq,eq_self,t1,t18,t20,eq_true c1,eq_true c2]
      simp -implicitDefEqProofs only[go_sem,t0,t4]
      refine ab.ok (ih P A V (U++(B++Q)) L1 L2 a st mid (by omega) (by rw[hL1];simp) (by rw[hL2];simp) ha (by omega) (by omega) (by omega) (by omega) sA sV n1) ?_
      simp -implicitDefEqProofs only[↓reduceIte,go_sem,Nat.reduceEqDiff,reduceCtorEq,eq_self,t0,t3,t4,t18,t24]
     ·simp -implicitDefEqProofs only[↓reduceIte,go_sem,Nat.reduceLT,Nat.reduceEqDiff,reduceCtorEq,eq_self,t1,t18,t20,eq_true c1,eq_false c2]
      simp -implicitDefEqProofs only[go_sem,eq_self,t0,t3,t4,t24]
      exact same (.inr (List.eq_nil_of_length_eq_zero (by omega)))
    ·simp -implicitDefEqProofs only[↓reduceIte,go_sem,Nat.reduceLT,Nat.reduceEqDiff,reduceCtorEq,eq_self,t1,t18,t20,eq_false c1]
     simp -implicitDefEqProofs only[go_sem,eq_self,t0,t3,t4,t24]
     exact same (.inl (List.eq_nil_of_length_eq_zero (by omega)))
   rintro s H2 ⟨rfl,t0,t3,t4,t18,t24⟩
   have same:U=[]∨B=[]→aH H id ver L2=aH H id ver L':=fun h=>by
    have:St.bN (c6 c) (U++B)=U++B:=by
     rcases h with rfl|rfl
     ·simpa using St.eC ho sB
     ·simpa using St.eC ho sU
    rw[hL2,hL3,this];simp
   by_cases c1:mid<e
   ·by_cases c2:e<b
    ·simp -implicitDefEqProofs only[↓reduceIte,go_sem,Nat.reduceLT,Nat.reduceEqDiff,reduceCtorEq,eq_self,t3,t18,t24,eq_true c1,eq_true c2]
     simp -implicitDefEqProofs only[go_sem,t0,t4]
     have lS:=St.cG (lt:=c6 c) (A++V)
     rw[List.length_append]at lS
     refine ab.ok (ih (P++St.bN (c6 c) (A++V)) U B Q L2 L' mid e b (by omega) (by rw[hL2]) (by rw[hL3]) (by simp;omega) (by simp;omega) (by simp;omega) (by omega) (by omega) sU sB n2) ?_
     simp -implicitDefEqProofs only[go_sem]
     exact⟨_,ar.refl _ _,rfl⟩
    ·simp -implicitDefEqProofs only[↓reduceIte,go_sem,Nat.reduceLT,Nat.reduceEqDiff,eq_self,t3,t18,t24,eq_true c1,eq_false c2]
     rw[same (.inr (List.eq_nil_of_length_eq_zero (by omega)))]
     exact⟨_,ar.refl _ _,rfl⟩
   ·simp -implicitDefEqProofs only[↓reduceIte,go_sem,Nat.reduceLT,Nat.reduceEqDiff,reduceCtorEq,eq_self,t18,t24,eq_false c1]
    rw[same (.inl (List.eq_nil_of_length_eq_zero (by omega)))]
    exact⟨_,ar.refl _ _,rfl⟩
end SV
end Go.Proofs.YtmbagpfmfiegkaaGreat
namespace Go.Proofs.YtmbagpfmfiegkaaGreat
namespace St
variable {α:Type} {lt:α→α→Bool}
def lf(s j:Nat)(l:List α):List α:=(l.drop (j* s)).take s
theorem AH{s j k:Nat}{P R:List α}(hP:P.length=k* s)(hj:j<k):lf s j (P++R)=(P.drop (j* s)).take s:=by
 have h1:(j+1)* s≤k* s:=Nat.mul_le_mul_right s hj
 rw[Nat.add_mul,Nat.one_mul]at h1
 unfold lf
 rw[List.drop_append_of_le_length (by omega),List.take_append_of_le_length (by rw[List.length_drop];omega)]
theorem GA{s k:Nat}{P X Q:List α}(hP:P.length=k* s)(hX:X.length=s∨X.length≤s∧Q=[]):lf s k (P++X++Q)=X:=by
 unfold lf
 rw[List.append_assoc,←hP,List.drop_left]
 rcases hX with h|⟨h,rfl⟩
 ·rw[←h,List.take_left]
 ·rw[List.append_nil,List.take_of_length_le h]
theorem n4{P X Q:List α}{i:Nat}(h:P.length+X.length≤i):(P++X++Q).drop i=Q.drop (i-(P.length+X.length)):=by
 rw[List.drop_append,List.drop_of_length_le (by rw[List.length_append];exact h),List.nil_append,List.length_append]
theorem xK{s j:Nat}{P X X' Q:List α}(hX:X.length=X'.length)(h:P.length+X.length≤j* s):lf s j (P++X++Q)=lf s j (P++X'++Q):=by
 unfold lf
 rw[n4 h,n4 (by omega),hX]
theorem zY{s j:Nat}{l:List α}(h:l.length≤j* s):lf s j l=[]:=by
 unfold lf
 rw[List.drop_of_length_le h,List.take_nil]
theorem mU(ho:Ord lt){s k:Nat}{P X Q:List α}(hP:P.length=k* s)(h:∀j,j<k→aD lt (lf s j (P++X++Q)))(hX:X.length=s∨X.length≤s∧Q=[]):∀j,j<k+1→aD lt (lf s j (P++bN lt X++Q)):=by
 intro j hj
 rcases Nat.lt_or_ge j k with h1|h1
 ·have:=h j h1
  rw[List.append_assoc,AH hP h1]at this⊢
  exact this
 ·obtain rfl:j=k:=by omega
  rw[GA hP (by rw[cG];exact hX)]
  exact cQ ho X
theorem kU(ho:Ord lt)(P X Q:List α):cz lt (P++bN lt X++Q) (P++X++Q):=cz.app (cz.app (.refl _) (eG ho X)) (.refl _)
theorem Iq(l:List α)(a s:Nat):l.take a++(l.drop a).take s++l.drop (a+s)=l:=by
 rw[List.append_assoc,←List.drop_drop,List.take_append_drop,List.take_append_drop]
theorem Io(l:List α)(a s t:Nat):l.take a++(l.drop a).take s++(l.drop (a+s)).take t++l.drop (a+s+t)=l:=by
 have e:(l.drop (a+s)).take t++l.drop (a+s+t)=l.drop (a+s):=by
  have:=List.take_append_drop t (l.drop (a+s))
  rwa[List.drop_drop]at this
 rw[List.append_assoc,e,Iq]
end St
end Go.Proofs.YtmbagpfmfiegkaaGreat
namespace Go.Proofs.YtmbagpfmfiegkaaGreat
open Go.Proofs.YtmbagpfmfiegkaaGreatAw Go.RowKit
namespace SV
theorem lr(H:aa)(id ver:Nat)(hid:id<H.length)(g:FuncId)(caps:List AV)(c:ai→ai→Int)(ho:St.Ord (c6 c))(hc:mz g caps c H id)(n:Nat)(hbig:n≤1000000000000):∀(N:Nat) (P X Y Q L L':List ai) (a m b:Nat),X.length+Y.length≤N→
  L=P++X++Y++Q→L'=P++St.bN (c6 c) (X++Y)++Q→P.length=a→P.length+X.length=m→P.length+X.length+Y.length=b→0<X.length→0<Y.length→St.aD (c6 c) X→St.aD (c6 c) Y→L.length=n→
  ag Tryz.prog 180 [.sl id ver 0 n,iA a,iA m,iA b,.fn g caps] (aH H id ver L) (.ok (.bf [])) (aH H id ver L'):=by
 intro N
 induction N with
 |zero=>intros;omega
 |succ N ih=>
  intro P X Y Q L L' a m b hN hL hL' ha hm hb hX0 hY0 hX hY hn
  by_cases h1:X.length=1
  ·exact A2 H id ver hid g caps c ho hc n hbig P X Y Q L L' a m b hL hL' ha hm hb hX0 hY0 hX hY hn h1
  ·by_cases h2:Y.length=1
   ·exact AB H id ver hid g caps c ho hc n hbig P X Y Q L L' a m b hL hL' ha hm hb hX0 hY0 hX hY hn h1 h2
   ·exact Bb H id ver hid g caps c ho hc n hbig P X Y Q L L' a m b hL hL' ha hm hb hX0 hY0 hX hY hn h1 h2 fun P' X' Y' Q' L1 L2 a' m' b' hlt=>ih P' X' Y' Q' L1 L2 a' m' b' (by omega)
theorem uR(H:aa)(id ver:Nat)(hid:id<H.length)(g:FuncId)(caps:List AV)(c:ai→ai→Int)(ho:St.Ord (c6 c))(hc:mz g caps c H id)(n:Nat)(hbig:n≤100000000000)(L:List ai)(hn:L.length=n):
  ag Tryz.prog 172 [.sl id ver 0 n,iA n,.fn g caps] (aH H id ver L) (.ok (.bf [])) (aH H id ver (St.bN (c6 c) L)):=by
 generalize hE0:aH H id ver L=E0
 generalize hE1:aH H id ver (St.bN (c6 c) L)=E1
 refine ag.aj (hint:=(fun _=>false)) Tryz.func172 (by kernel_rfl) rfl [] (by kernel_rfl) (by decide) (by simp[Tryz.ntmps172]) ?_
 rw[Tryz.ntmps172]
 simp -implicitDefEqProofs only[↓reduceIte,go_sem,Nat.reduceLT,Nat.reduceEqDiff,eq_self]
 refine pJ (fun s H'=>(∃Lk,H'=aH H id ver Lk∧St.cz (c6 c) Lk L∧Lk.length=n∧(∃k,k* 20≤n∧n<(k+1)* 20∧(∀j,j<k→St.aD (c6 c) (St.lf 20 j Lk))∧s 7=iA ((k* 20:Nat):Int)))∧s 0= .sl id ver 0 n∧s 1=iA n∧s 2= .fn g caps∧s 6=iA 20) rfl ?_ ?_
 ·refine cC _ _ _ _ (fun(k:Nat) s H'=>k* 20≤n∧(∃Lk,H'=aH H id ver Lk∧St.cz (c6 c) Lk L∧Lk.length=n∧∀j,j<k→St.aD (c6 c) (St.lf 20 j Lk))∧s 0= .sl id ver 0 n∧s 1=iA n∧s 2= .fn g caps∧s 6=iA 20∧s 7=iA ((k* 20:Nat):Int)∧s 8=iA (((k+1)* 20:Nat):Int)) (fun k=>n-k) 0 (ar.refl _ _) ?_ ?_
  ·refine⟨by omega,⟨L,hE0.symm,.refl _,hn,fun j hj=>by omega⟩,?_⟩
   simp -implicitDefEqProofs only[↓reduceIte,go_sem,Nat.reduceLT,Nat.reduceEqDiff,reduceCtorEq,eq_self]
  ·rintro k s H' ⟨hk,⟨Lk,rfl,hst,hlen,hso⟩,t0,t1,t2,t6,t7,t8⟩
   obtain⟨a,ha⟩:∃a,a=k* 20:=⟨_,rfl⟩
   obtain⟨b,hb⟩:∃b,b=(k+1)* 20:=⟨_,rfl⟩
   rw[←ha]at t7
   rw[←hb]at t8
   by_cases hbn:b≤n
   ·obtain⟨P,hP⟩:∃P,P=Lk.take a:=⟨_,rfl⟩
    obtain⟨X,hX⟩:∃X,X=(Lk.drop a).take 20:=⟨_,rfl⟩
    obtain⟨Q,hQ⟩:∃Q,Q=Lk.drop (a+20):=⟨_,rfl⟩
    have hc3:Lk=P++X++Q:=by rw[hP,hX,hQ,St.Iq]
    have lP:P.length=a:=by rw[hP,List.length_take];omega
    have lX:X.length=20:=by rw[hX,List.length_take,List.length_drop];omega
    obtain⟨L1,hL1⟩:∃L1,L1=P++St.bN (c6 c) X++Q:=⟨_,rfl⟩
    have lL1:L1.length=n:=by rw[hL1,←hlen,hc3];simp[St.cG]
    have hso1:∀j,j<k+1→St.aD (c6 c) (St.lf 20 j L1):=by
     rw[hL1];exact St.mU ho (by omega) (by rw[←hc3];exact hso) (.inl lX)
    have hst1:St.cz (c6 c) L1 L:=by
     refine St.cz.trans ?_ hst
     rw[hL1,hc3];exact St.kU ho P X Q
    have w1:IntKind.i64.wrap ((b:Int)+20)=(((k+1+1)* 20:Nat):Int):=by rw[wrap64_in _ (by omega) (by omega)];omega
    obtain⟨b2,hb2⟩:∃b2,b2=(k+1+1)* 20:=⟨_,rfl⟩
    rw[←hb2]at w1
    simp -implicitDefEqProofs only[↓reduceIte,go_sem,Nat.reduceLT,Nat.reduceEqDiff,reduceCtorEq,eq_self,t1,t8,eq_true hbn]
    simp -implicitDefEqProofs only[go_sem,t0,t2,t7]
    refine ab.ok (ml H id ver hid g caps c ho hc P X Q Lk L1 hc3 hL1 a b n lP (by omega) hlen (by omega)) ?_
    simp -implicitDefEqProofs only[↓reduceIte,go_sem,Nat.reduceLT,Nat.reduceEqDiff,eq_self,t6,t8,w1]
    refine⟨_,_,k+1,ar.refl _ _,⟨by omega,⟨L1,rfl,hst1,lL1,hso1⟩,?_⟩,by omega⟩
    rw[←hb,←hb2]
    simp -implicitDefEqProofs only[↓reduceIte,go_sem,Nat.reduceLT,Nat.reduceEqDiff,reduceCtorEq,eq_self,t0,t1,t2,t6]
   ·simp -implicitDefEqProofs only[↓reduceIte,go_sem,Nat.reduceLT,Nat.reduceEqDiff,reduceCtorEq,eq_self,t1,t8,eq_false hbn]
    refine⟨⟨Lk,rfl,hst,hlen,k,by omega,by omega,hso,?_⟩,?_⟩
    ·rw[←ha];simp -implicitDefEqProofs only[go_sem,eq_self,t7]
    ·simp -implicitDefEqProofs only[go_sem,eq_self,t0,t2,t6]
 rintro s H' ⟨⟨Lk,rfl,hst,hlen,k,hk1,hk2,hso,t7⟩,t0,t1,t2,t6⟩
 obtain⟨a,ha⟩:∃a,a=k* 20:=⟨_,rfl⟩
 rw[←ha]at t7
 have hc3:Lk=Lk.take a++Lk.drop a++[]:=by simp
 obtain⟨L1,hL1⟩:∃L1,L1=Lk.take a++St.bN (c6 c) (Lk.drop a)++[]:=⟨_,rfl⟩
 have lP:(Lk.take a).length=a:=by rw[List.length_take];omega
 have lX:(Lk.drop a).length=n-a:=by rw[List.length_drop];omega
 have lL1:L1.length=n:=by rw[hL1];simp only[List.length_append,St.cG,lP,lX,List.length_nil];omega
 have hst1:St.cz (c6 c) L1 L:=by
  refine St.cz.trans ?_ hst
  rw[hL1]
  have:=St.kU ho (Lk.take a) (Lk.drop a) []
  rwa[←hc3]at this
 have hb1:∀j,St.aD (c6 c) (St.lf 20 j L1):=by
  intro j
  rcases Nat.lt_or_ge j (k+1)with h|h
  ·rw[hL1]
   exact St.mU ho (by omega) (by rw[←hc3];exact hso) (.inr ⟨by omega,rfl⟩) j h
  ·have:=Nat.mul_le_mul_right 20 h
   rw[St.zY (by omega)]
   exact List.Pairwise.nil
 simp -implicitDefEqProofs only[↓reduceIte,go_sem,Nat.reduceLT,Nat.reduceEqDiff,eq_self,t0,t1,t2,t7]
 refine ab.ok (ml H id ver hid g caps c ho hc _ _ _ Lk L1 hc3 hL1 a n n lP (by omega) hlen (by omega)) ?_
 clear hc3 hL1 lP lX hst hso hlen
 simp -implicitDefEqProofs only[go_sem]
 refine cC _ _ _ _ (fun(z:Nat) s H'=>20≤z∧z≤2* n+20∧(∃Lk,H'=aH H id ver Lk∧St.cz (c6 c) Lk L∧Lk.length=n∧∀j,St.aD (c6 c) (St.lf z j Lk))∧s 0= .sl id ver 0 n∧s 1=iA n∧s 2= .fn g caps∧s 6=iA z) (fun z=>n-z) 20 (ar.refl _ _) ?_ ?_
 ·refine⟨Nat.le_refl _,by omega,⟨L1,rfl,hst1,lL1,hb1⟩,?_⟩
  simp -implicitDefEqProofs only[↓reduceIte,go_sem,Nat.reduceEqDiff,reduceCtorEq,eq_self,t0,t1,t2,t6]
 clear hb1 hst1 lL1 t0 t1 t2 t6 t7 hk1 hk2 ha
 rintro z s H' ⟨hz1,hz2,⟨Lk,rfl,hst,hlen,hbl⟩,t0,t1,t2,t6⟩
 by_cases hzn:z<n
 ·have w1:IntKind.i64.wrap (2* (z:Int))=((2* z:Nat):Int):=by rw[wrap64_in _ (by omega) (by omega)];omega
  have w1':IntKind.i64.wrap ((z:Int)* 2)=((2* z:Nat):Int):=by rw[wrap64_in _ (by omega) (by omega)];omega
  obtain⟨y,hy⟩:∃y,y=2* z:=⟨_,rfl⟩
  rw[←hy]at w1 w1'
  simp -implicitDefEqProofs only[↓reduceIte,go_sem,Nat.reduceLT,Nat.reduceEqDiff,eq_self,t1,t6,eq_true hzn,w1]
  refine pJ (fun s H'=>(∃Lk,H'=aH H id ver Lk∧St.cz (c6 c) Lk L∧Lk.length=n∧∃k a,a=k* y∧a=2* k* z∧a≤n∧n<a+y∧(∀j,j<k→St.aD (c6 c) (St.lf y j Lk))∧(∀j,2* k≤j→St.aD (c6 c) (St.lf z j Lk))∧s 7=iA a)∧s 0= .sl id ver 0 n∧s 1=iA n∧s 2= .fn g caps∧s 6=iA z) rfl ?_ ?_
  ·refine cC _ _ _ _ (fun(k:Nat) s H'=>(∃a,a=k* y∧a=2* k* z∧a≤n∧s 7=iA a∧s 8=iA ((a+y:Nat):Int))∧(∃Lk,H'=aH H id ver Lk∧St.cz (c6 c) Lk L∧Lk.length=n∧(∀j,j<k→St.aD (c6 c) (St.lf y j Lk))∧(∀j,2* k≤j→St.aD (c6 c) (St.lf z j Lk)))∧s 0= .sl id ver 0 n∧s 1=iA n∧s 2= .fn g caps∧s 6=iA z) (fun k=>n+1-k* y) 0 (ar.refl _ _) ?_ ?_
   ·refine⟨⟨0,by omega,by omega,by omega,?_⟩,⟨Lk,rfl,hst,hlen,fun j hj=>by omega,fun j _=>hbl j⟩,?_⟩
    ·simp -implicitDefEqProofs only[↓reduceIte,go_sem,Nat.reduceLT,Nat.reduceEqDiff,eq_self,Nat.zero_add]
    ·simp -implicitDefEqProofs only[↓reduceIte,go_sem,Nat.reduceEqDiff,reduceCtorEq,eq_self,t0,t1,t2,t6]
   clear hst hlen hbl Lk t0 t1 t2 t6
   rintro k s H' ⟨⟨a,ha,ha2,han,t7,t8⟩,⟨Lk,rfl,hst,hlen,hso,hso2⟩,t0,t1,t2,t6⟩
   obtain⟨b,hb⟩:∃b,b=a+y:=⟨_,rfl⟩
   rw[←hb]at t8
   have hk1:(k+1)* y=a+y:=by rw[Nat.add_mul,←ha,Nat.one_mul]
   have hk2:2* (k+1)* z=a+2* z:=by rw[Nat.mul_add,Nat.add_mul,←ha2]
   have hk3:(2* k+1)* z=a+z:=by rw[Nat.add_mul,←ha2,Nat.one_mul]
   by_cases hbn:b≤n
   ·obtain⟨P,hP⟩:∃P,P=Lk.take a:=⟨_,rfl⟩
    obtain⟨X,hX⟩:∃X,X=(Lk.drop a).take z:=⟨_,rfl⟩
    obtain⟨Y,hY⟩:∃Y,Y=(Lk.drop (a+z)).take z:=⟨_,rfl⟩
    obtain⟨Q,hQ⟩:∃Q,Q=Lk.drop (a+z+z):=⟨_,rfl⟩
    have hc4:Lk=P++X++Y++Q:=by rw[hP,hX,hY,hQ,St.Io]
    have hc5:Lk=P++(X++Y)++Q:=by rw[hc4];simp
    have lP:P.length=a:=by rw[hP,List.length_take];omega
    have lX:X.length=z:=by rw[hX,List.length_take,List.length_drop];omega
    have lY:Y.length=z:=by rw[hY,List.length_take,List.length_drop];omega
    have lXY:(X++Y).length=y:=by rw[List.length_append];omega
    have sX:St.aD (c6 c) X:=by have:=hso2 (2* k) (Nat.le_refl _);rw[St.lf,←ha2,←hX]at this;exact this
    have sY:St.aD (c6 c) Y:=by have:=hso2 (2* k+1) (by omega);rw[St.lf,hk3,←hY]at this;exact this
    obtain⟨L1,hL1⟩:∃L1,L1=P++St.bN (c6 c) (X++Y)++Q:=⟨_,rfl⟩
    have lL1:L1.length=n:=by rw[hL1,←hlen,hc5];simp[St.cG];try omega
    have hst1:St.cz (c6 c) L1 L:=by
     refine St.cz.trans ?_ hst
     rw[hL1,hc5];exact St.kU ho P (X++Y) Q
    have hso1:∀j,j<k+1→St.aD (c6 c) (St.lf y j L1):=by
     rw[hL1];exact St.mU ho (by omega) (by rw[←hc5];exact hso) (.inl lXY)
    have hso3:∀j,2* (k+1)≤j→St.aD (c6 c) (St.lf z j L1):=fun j hj=>by
     have h1:=Nat.mul_le_mul_right z hj
     rw[hL1,St.xK (X':=X++Y) (St.cG _) (by rw[St.cG,lXY,lP];omega),←hc5]
     exact hso2 j (by omega)
    clear hP hX hY hQ hst hso hso2
    obtain⟨m,hm⟩:∃m,m=a+z:=⟨_,rfl⟩
    obtain⟨b2,hb2⟩:∃b2,b2=b+y:=⟨_,rfl⟩
    have w2:IntKind.i64.wrap ((a:Int)+(z:Int))=(m:Int):=by rw[wrap64_in _ (by omega) (by omega)];omega
    have w3:IntKind.i64.wrap ((b:Int)+(y:Int))=(b2:Int):=by rw[wrap64_in _ (by omega) (by omega)];omega
    simp -implicitDefEqProofs only[↓reduceIte,go_sem,Nat.reduceLT,Nat.reduceEqDiff,reduceCtorEq,eq_self,t1,t8,eq_true hbn]
    simp -implicitDefEqProofs only[↓reduceIte,go_sem,Nat.reduceLT,Nat.reduceEqDiff,eq_self,t0,t2,t6,t7,t8,w2]
    refine ab.ok (lr H id ver hid g caps c ho hc n (by omega) _ P X Y Q Lk L1 a m b (Nat.le_refl _) hc4 hL1 lP (by omega) (by omega) (by omega) (by omega) sX sY hlen) ?_
    simp -implicitDefEqProofs only[↓reduceIte,go_sem,Nat.reduceLT,Nat.reduceEqDiff,eq_self,t6,t8,w1,w3]
    refine⟨_,_,k+1,ar.refl _ _,⟨⟨b,by omega,by omega,hbn,?_⟩,⟨L1,rfl,hst1,lL1,hso1,hso3⟩,?_⟩,by omega⟩
    ·simp -implicitDefEqProofs only[↓reduceIte,go_sem,Nat.reduceLT,Nat.reduceEqDiff,eq_self,show((b:Int)+(y:Int))=(b2:Int) by omega]
    ·simp -implicitDefEqProofs only[↓reduceIte,go_sem,Nat.reduceEqDiff,reduceCtorEq,eq_self,t0,t1,t2,t6]
   ·simp -implicitDefEqProofs only[↓reduceIte,go_sem,Nat.reduceLT,Nat.reduceEqDiff,reduceCtorEq,eq_self,t1,t8,eq_false hbn]
    refine⟨⟨Lk,rfl,hst,hlen,k,a,ha,ha2,han,by omega,hso,hso2,?_⟩,?_⟩
    ·simp -implicitDefEqProofs only[go_sem,eq_self,t7]
    ·simp -implicitDefEqProofs only[go_sem,eq_self,t0,t2,t6]
  clear hst hlen hbl Lk t0 t1 t2 t6
  rintro s H' ⟨⟨Lk,rfl,hst,hlen,k,a,ha,ha2,han,hna,hso,hso2,t7⟩,t0,t1,t2,t6⟩
  have hk3:(2* k+1)* z=a+z:=by rw[Nat.add_mul,←ha2,Nat.one_mul]
  have hk1:(k+1)* y=a+y:=by rw[Nat.add_mul,←ha,Nat.one_mul]
  obtain⟨m,hm⟩:∃m,m=a+z:=⟨_,rfl⟩
  have w2:IntKind.i64.wrap ((a:Int)+(z:Int))=(m:Int):=by rw[wrap64_in _ (by omega) (by omega)];omega
  have all:∀L1:List ai,L1.length=n→(∀j,j<k+1→St.aD (c6 c) (St.lf y j L1))→∀j,St.aD (c6 c) (St.lf y j L1):=fun L1 hl h j=>by
   rcases Nat.lt_or_ge j (k+1)with h1|h1
   ·exact h j h1
   ·have:=Nat.mul_le_mul_right y h1
    rw[St.zY (by omega)]
    exact List.Pairwise.nil
  by_cases hmn:m<n
  ·obtain⟨P,hP⟩:∃P,P=Lk.take a:=⟨_,rfl⟩
   obtain⟨X,hX⟩:∃X,X=(Lk.drop a).take z:=⟨_,rfl⟩
   obtain⟨Y,hY⟩:∃Y,Y=(Lk.drop (a+z)).take z:=⟨_,rfl⟩
   have hQ:Lk.drop (a+z+z)=[]:=List.drop_of_length_le (by omega)
   have hc4:Lk=P++X++Y++[]:=by rw[hP,hX,hY,←hQ,St.Io]
   have hc5:Lk=P++(X++Y)++[]:=by rw[hc4];simp
   have lP:P.length=a:=by rw[hP,List.length_take];omega
   have lX:X.length=z:=by rw[hX,List.length_take,List.length_drop];omega
   have lY:Y.length=n-m:=by rw[hY,List.length_take,List.length_drop];omega
   have lXY:(X++Y).length≤y:=by rw[List.length_append];omega
   have sX:St.aD (c6 c) X:=by have:=hso2 (2* k) (Nat.le_refl _);rw[St.lf,←ha2,←hX]at this;exact this
   have sY:St.aD (c6 c) Y:=by have:=hso2 (2* k+1) (by omega);rw[St.lf,hk3,←hY]at this;exact this
   obtain⟨L1,hL1⟩:∃L1,L1=P++St.bN (c6 c) (X++Y)++[]:=⟨_,rfl⟩
   have lL1:L1.length=n:=by rw[hL1,←hlen,hc5];simp[St.cG];try omega
   have hst1:St.cz (c6 c) L1 L:=by
    refine St.cz.trans ?_ hst
    rw[hL1]
    have:=St.kU ho P (X++Y) []
    rwa[←hc5]at this
   have hso1:∀j,j<k+1→St.aD (c6 c) (St.lf y j L1):=by
    rw[hL1];exact St.mU ho (by omega) (by rw[←hc5];exact hso) (.inr ⟨lXY,rfl⟩)
   clear hP hX hY hQ hst hso hso2
   simp -implicitDefEqProofs only[↓reduceIte,go_sem,Nat.reduceLT,Nat.reduceEqDiff,reduceCtorEq,eq_self,t1,t6,t7,w2,eq_true hmn]
   simp -implicitDefEqProofs only[go_sem,t0,t2]
   refine ab.ok (lr H id ver hid g caps c ho hc n (by omega) _ P X Y [] Lk L1 a m n (Nat.le_refl _) hc4 hL1 lP (by omega) (by omega) (by omega) (by omega) sX sY hlen) ?_
   simp -implicitDefEqProofs only[↓reduceIte,go_sem,Nat.reduceLT,Nat.reduceEqDiff,eq_self,t6,w1']
   refine⟨_,_,y,ar.refl _ _,⟨by omega,by omega,⟨L1,rfl,hst1,lL1,all L1 lL1 hso1⟩,?_⟩,by omega⟩
   simp -implicitDefEqProofs only[↓reduceIte,go_sem,Nat.reduceLT,Nat.reduceEqDiff,reduceCtorEq,eq_self,t0,t1,t2]
  ·have hso1:∀j,j<k+1→St.aD (c6 c) (St.lf y j Lk):=fun j hj=>by
    rcases Nat.lt_or_ge j k with h|h
    ·exact hso j h
    ·obtain rfl:j=k:=by omega
     have h1:=hso2 (2* j) (Nat.le_refl _)
     unfold St.lf at h1⊢
     rw[←ha2,List.take_of_length_le (by rw[List.length_drop];omega)]at h1
     rw[←ha,List.take_of_length_le (by rw[List.length_drop];omega)]
     exact h1
   simp -implicitDefEqProofs only[↓reduceIte,go_sem,Nat.reduceLT,Nat.reduceEqDiff,eq_self,t1,t6,t7,w2,eq_false hmn,w1']
   refine⟨_,_,y,ar.refl _ _,⟨by omega,by omega,⟨Lk,rfl,hst,hlen,all Lk hlen hso1⟩,?_⟩,by omega⟩
   simp -implicitDefEqProofs only[↓reduceIte,go_sem,Nat.reduceLT,Nat.reduceEqDiff,reduceCtorEq,eq_self,t0,t1,t2]
 ·simp -implicitDefEqProofs only[↓reduceIte,go_sem,Nat.reduceLT,Nat.reduceEqDiff,eq_self,t1,t6,eq_false hzn]
  have h0:=hbl 0
  unfold St.lf at h0
  rw[Nat.zero_mul,List.drop_zero,List.take_of_length_le (by omega)]at h0
  rw[←hE1,St.l9 ho h0 hst]
  exact⟨_,ar.refl _ _,rfl⟩
theorem Bp(H:aa)(id ver:Nat)(hid:id<H.length)(g:FuncId)(caps:List AV)(c:ai→ai→Int)(ho:St.Ord (c6 c))(hc:mz g caps c H id)(n:Nat)(hbig:n≤100000000000)(L:List ai)(hn:L.length=n):
  ag Tryz.prog 152 [.sl id ver 0 n,.fn g caps] (aH H id ver L) (.ok (.bf [])) (aH H id ver (St.bN (c6 c) L)):=by
 have gh:=gP hid ver L
 have hs:=uR H id ver hid g caps c ho hc n hbig L hn
 generalize aH H id ver L=E0 at*
 refine ag.aj (hint:=(fun _=>false)) Tryz.func152 (by kernel_rfl) rfl [] (by kernel_rfl) (by decide) (by simp[Tryz.ntmps152]) ?_
 rw[Tryz.ntmps152]
 simp -implicitDefEqProofs only[↓reduceIte,go_sem,Nat.reduceLT,Nat.reduceEqDiff,reduceCtorEq,eq_self,gh]
 refine ab.ok hs ?_
 simp -implicitDefEqProofs only[go_sem]
 exact⟨_,ar.refl _ _,rfl⟩
end SV
end Go.Proofs.YtmbagpfmfiegkaaGreat
namespace Go.Proofs.YtmbagpfmfiegkaaGreat
open Go.Proofs.YtmbagpfmfiegkaaGreatAw Go.RowKit
namespace SV
def Kp(g:FuncId)(caps:List AV)(c:ai→ai→Bool)(H:aa)(id:Nat):Prop:=∀(o:aA) (x y:ai),ag Tryz.prog g ([.agg ((ai.enc x).map .d),.agg ((ai.enc y).map .d)]++caps) (H.set id o) (.ok (bA (c x y))) (H.set id o)
def A3:List D:=[iD 0,iD 0,.v (.string ⟨#[]⟩)]
def rB(H:aa)(id ver:Nat)(c:ai→ai→Bool)(L:List ai):aa:=H.set id (.arr 25 3 ver ((St.aT c L).map ai.enc++List.replicate (L.length-(St.aT c L).length) A3))
theorem pM(H:aa)(id ver:Nat)(c:ai→ai→Bool)(L:List ai)(h:St.aT c L=L):rB H id ver c L=aH H id ver L:=by
 unfold rB aH
 rw[h,Nat.sub_self,List.replicate_zero,List.append_nil]
theorem sx(H:aa)(id ver:Nat)(hid:id<H.length)(g:FuncId)(caps:List AV)(c:ai→ai→Bool)(hc:Kp g caps c H id)(n:Nat)(hbig:n≤100000000000)(L:List ai)(hn:L.length=n):
  ag Tryz.prog 153 [.sl id ver 0 n,.fn g caps] (aH H id ver L) (.ok (.sl id ver 0 (St.aT c L).length)) (rB H id ver c L):=by
 have gh:=gP hid ver L
 have hcE:∀M:List ai,∀x y:ai,ag Tryz.prog g ([.agg ((ai.enc x).map .d),.agg ((ai.enc y).map .d)]++caps) (aH H id ver M) (.ok (bA (c x y))) (aH H id ver M):=fun M x y=>hc _ x y
 generalize hE1:rB H id ver c L=E1
 by_cases h2:n<2
 ·have hsame:St.aT c L=L:=by
   cases L with
   |nil=>rfl
   |cons x t=>
    cases t with
    |nil=>rfl
    |cons y t=>simp at hn;omega
  have he:aH H id ver L=E1:=by rw[←hE1,pM _ _ _ _ _ hsame]
  rw[hsame,hn]
  generalize aH H id ver L=E0 at*
  subst he
  refine ag.aj (hint:=(fun _=>false)) Tryz.func153 (by kernel_rfl) rfl [4] (by kernel_rfl) (by decide) (by simp[Tryz.ntmps153]) ?_
  rw[Tryz.ntmps153]
  simp -implicitDefEqProofs only[↓reduceIte,go_sem,Nat.reduceLT,reduceCtorEq,eq_self,gh,show((n:Int)<2)=True from eq_true (by omega)]
  refine aw.bq ?_
  simp -implicitDefEqProofs only[↓reduceIte,go_sem,Nat.reduceLT,eq_self]
 generalize hE0:aH H id ver L=E0 at gh
 refine ag.aj (hint:=(fun _=>false)) Tryz.func153 (by kernel_rfl) rfl [4] (by kernel_rfl) (by decide) (by simp[Tryz.ntmps153]) ?_
 rw[Tryz.ntmps153]
 simp -implicitDefEqProofs only[↓reduceIte,go_sem,Nat.reduceLT,reduceCtorEq,eq_self,gh,show((n:Int)<2)=False from eq_false (by omega)]
 refine fM (fun k s H'=>H'=E0∧St.aT c (L.take (k+1))=L.take (k+1)∧s 0= .sl id ver 0 n∧s 1= .fn g caps∧s 5=iA ((k:Int)+1)) (n-1) (by omega) (ar.refl _ _) ?_ ?_ ?_
 ·refine⟨rfl,?_,?_⟩
  ·cases L<;>rfl
  ·simp -implicitDefEqProofs only[↓reduceIte,go_sem,Nat.reduceLT,Nat.reduceEqDiff,Int.reduceAdd,reduceCtorEq,eq_self]
 ·rintro k s H' hk hw ⟨rfl,hp,t0,t1,t5⟩
  obtain⟨q,hq⟩:∃q,q=k+1:=⟨_,rfl⟩
  obtain⟨x,hx⟩:∃x,L[q]?=some x:=⟨_,List.getElem?_eq_getElem (by omega)⟩
  obtain⟨y,hy⟩:∃y,L[k]?=some y:=⟨_,List.getElem?_eq_getElem (by omega)⟩
  have e1:L.take (q+1)=L.take q++[x]:=by rw[List.take_add_one,hx];rfl
  have hsn:St.aT c (L.take (q+1))=St.aT c (L.take q)++(if c x y=true then[]else[x]):=by
   rw[e1]
   exact St.ll (k:=k) (by rw[List.length_take];omega) (by rw[List.getElem?_take,if_pos (by omega)];exact hy)
  rw[←hq]at hp
  have f1:((k:Int)+1)=(q:Int):=by omega
  rw[f1]at t5
  have gx:=cq hx
  have gy:=cq hy
  have hd:=hcE L x y
  rw[hE0]at hd
  have w1:IntKind.i64.wrap ((q:Int)-1)=(k:Int):=by rw[wrap64_in _ (by omega) (by omega)];omega
  have w2:IntKind.i64.wrap ((q:Int)+1)=(q:Int)+1:=wrap64_in _ (by omega) (by omega)
  have hqn:q<n:=by omega
  have hkn:k<n:=by omega
  simp only[ai.enc]at gx gy
  simp only[ai.enc,List.map_cons,List.map_nil]at hd
  simp -implicitDefEqProofs only[↓reduceIte,go_sem,Nat.reduceLT,Nat.reduceEqDiff,reduceCtorEq,eq_self,t0,t5,gh,eq_true hqn]
  refine bP K.mixed (by kernel_rfl) ?_
  simp -implicitDefEqProofs only[↓reduceIte,go_sem,ah,Nat.reduceAdd,Nat.reduceLT,Nat.reduceEqDiff,reduceCtorEq,eq_self,t0,t1,t5,gh,gx,gy,hqn,hkn,w1]
  refine ab.ok hd ?_
  cases hcc:c x y with
  |false=>
   rw[hcc]at hsn
   simp -implicitDefEqProofs only[↓reduceIte,go_sem,Nat.reduceLT,Nat.reduceEqDiff,eq_self,t5,w2]
   refine eQ.same ⟨rfl,?_,?_⟩
   ·rw[←hq,hsn,hp,e1];rfl
   ·simp -implicitDefEqProofs only[↓reduceIte,go_sem,Nat.reduceLT,Nat.reduceEqDiff,reduceCtorEq,eq_self,t0,t1,show((k:Int)+1)=(q:Int) by omega]
  |true=>
   rw[hcc]at hsn
   have hsn2:St.aT c (L.take (q+1))=L.take q:=by rw[hsn,hp];simp
   simp -implicitDefEqProofs only[↓reduceIte,go_sem,Nat.reduceLT,Nat.reduceEqDiff,reduceCtorEq,eq_self,t0,t5,gh]
   refine⟨by omega,.inr (by omega),?_⟩
   have hnq:((n:Int).toNat-q)=n-q:=by omega
   refine fM (fun k2 s H'=>(∃C K1,H'=aH H id ver C∧C=K1++L.drop K1.length∧K1=St.aT c (L.take (q+k2+1))∧K1.length≤q+k2∧s 5=iA K1.length)∧s 0= .sl id ver 0 n∧s 1= .fn g caps∧s 6= .sl id ver q (n-q)∧s 7=iA ((k2:Int)+1)) (n-q-1) (by omega) (ar.refl _ _) ?_ ?_ ?_
   ·refine⟨⟨L,L.take q,hE0.symm,?_,?_,?_,?_⟩,?_⟩
    ·rw[List.length_take,Nat.min_eq_left (by omega),List.take_append_drop]
    ·rw[Nat.add_zero];exact hsn2.symm
    ·rw[List.length_take];omega
    ·rw[List.length_take,Nat.min_eq_left (by omega)];simp -implicitDefEqProofs only[↓reduceIte,go_sem,Nat.reduceEqDiff,eq_self,t5]
    ·simp -implicitDefEqProofs only[↓reduceIte,go_sem,Nat.reduceLT,Nat.reduceEqDiff,Int.reduceAdd,reduceCtorEq,eq_self,t0,t1]
   ·rintro k2 s H' hk2 hw3 ⟨⟨C,K1,rfl,hC,hK1,hKl,t5⟩,t0,t1,t6,t7⟩
    obtain⟨u,hu⟩:∃u,u=k2+1:=⟨_,rfl⟩
    obtain⟨v,hv⟩:∃v,v=q+u:=⟨_,rfl⟩
    obtain⟨x2,hx2⟩:∃x,L[v]?=some x:=⟨_,List.getElem?_eq_getElem (by omega)⟩
    obtain⟨y2,hy2⟩:∃y,L[v-1]?=some y:=⟨_,List.getElem?_eq_getElem (by omega)⟩
    have hCg:∀i,K1.length≤i→C[i]?=L[i]?:=fun i hi=>by
     rw[hC,List.getElem?_append_right hi,List.getElem?_drop,Nat.add_sub_cancel' hi]
    have hCl:C.length=n:=by rw[hC,List.length_append,List.length_drop];omega
    have e2:L.take (v+1)=L.take v++[x2]:=by rw[List.take_add_one,hx2];rfl
    have hsn3:St.aT c (L.take (v+1))=K1++(if c x2 y2=true then[]else[x2]):=by
     rw[e2,hK1,show q+k2+1=v by omega]
     exact St.ll (k:=v-1) (by rw[List.length_take];omega) (by rw[List.getElem?_take,if_pos (by omega)];exact hy2)
    have gx2:=cq ((hCg v (by omega)).trans hx2)
    have gy2:=cq ((hCg (v-1) (by omega)).trans hy2)
    have hd2:=hcE C x2 y2
    have gC:=gP hid ver C
    have f2:((k2:Int)+1)=(u:Int):=by omega
    rw[f2]at t7
    have w3:IntKind.i64.wrap ((u:Int)-1)=(k2:Int):=by rw[wrap64_in _ (by omega) (by omega)];omega
    have w4:IntKind.i64.wrap ((u:Int)+1)=(u:Int)+1:=wrap64_in _ (by omega) (by omega)
    have f3:q+u=v:=hv.symm
    have f4:q+k2=v-1:=by omega
    have hun:u<n-q:=by omega
    have hkn2:k2<n-q:=by omega
    simp only[ai.enc]at gx2 gy2
    simp only[ai.enc,List.map_cons,List.map_nil]at hd2
    simp -implicitDefEqProofs only[↓reduceIte,go_sem,Nat.reduceLT,Nat.reduceEqDiff,eq_self,t6,t7,gC,eq_true hun]
    refine bP K.mixed (by kernel_rfl) ?_
    simp -implicitDefEqProofs only[↓reduceIte,go_sem,ah,Nat.reduceAdd,Nat.reduceLT,Nat.reduceEqDiff,eq_self,t1,t6,t7,gC,w3,hun,hkn2,f3,f4,gx2,gy2]
    refine ab.ok hd2 ?_
    cases hc2:c x2 y2 with
    |true=>
     rw[hc2]at hsn3
     simp -implicitDefEqProofs only[↓reduceIte,go_sem,Nat.reduceLT,Nat.reduceEqDiff,eq_self,t7,w4]
     refine eQ.same ⟨⟨C,K1,rfl,hC,?_,by omega,?_⟩,?_⟩
     ·rw[show q+(k2+1)+1=v+1 by omega,hsn3];simp
     ·simp -implicitDefEqProofs only[↓reduceIte,go_sem,Nat.reduceEqDiff,eq_self,t5]
     ·simp -implicitDefEqProofs only[↓reduceIte,go_sem,Nat.reduceLT,Nat.reduceEqDiff,reduceCtorEq,eq_self,t0,t1,t6,show((k2:Int)+1)=(u:Int) by omega]
    |false=>
     rw[hc2]at hsn3
     obtain⟨r,hr⟩:∃r,r=K1.length:=⟨_,rfl⟩
     rw[←hr]at t5
     have hrn:r<n:=by omega
     have w5:IntKind.i64.wrap ((r:Int)+1)=((r+1:Nat):Int):=by rw[wrap64_in _ (by omega) (by omega)];omega
     obtain⟨r2,hr2⟩:∃r2,r2=r+1:=⟨_,rfl⟩
     rw[←hr2]at w5
     have s1:=fZ C r x2
     obtain⟨z0,hz0⟩:∃z,C[r]?=some z:=⟨_,List.getElem?_eq_getElem (by omega)⟩
     have gz:=cq hz0
     simp only[ai.enc]at s1 gz
     simp -implicitDefEqProofs only[↓reduceIte,go_sem,ah,ak,Nat.reduceAdd,Nat.reduceLT,Nat.reduceEqDiff,reduceCtorEq,eq_self,t0,t5,t6,t7,gC,hun,hrn,f3,gx2,gz,s1,nr,w4,w5]
     refine eQ.same ⟨⟨C.set r x2,K1++[x2],by rw[←mb],?_,?_,?_,?_⟩,?_⟩
     ·have e3:L.drop r=L[r]'(by omega)::L.drop (r+1):=List.drop_eq_getElem_cons (by omega)
      rw[hC,←hr,e3,gN hr.symm];simp[hr]
     ·rw[show q+(k2+1)+1=v+1 by omega,hsn3];simp
     ·rw[List.length_append,List.length_singleton];omega
     ·simp -implicitDefEqProofs only[↓reduceIte,go_sem,Nat.reduceLT,Nat.reduceEqDiff,eq_self,List.length_append,show((K1.length:Int)+1)=(r2:Int) by omega]
     ·simp -implicitDefEqProofs only[↓reduceIte,go_sem,Nat.reduceLT,Nat.reduceEqDiff,reduceCtorEq,eq_self,t0,t1,t6,show((k2:Int)+1)=(u:Int) by omega]
   ·rintro s H' ⟨⟨C,K1,rfl,hC,hK1,hKl,t5⟩,t0,t1,t6,t7⟩
    have hK2:St.aT c L=K1:=by rw[hK1,List.take_of_length_le (by omega)]
    have hCl:C.length=n:=by rw[hC,List.length_append,List.length_drop];omega
    have gC:=gP hid ver C
    have hlt:((((n-q-1:Nat):Int)+1)<((n-q:Nat):Int))=False:=eq_false (by omega)
    obtain⟨r,hr⟩:∃r,r=K1.length:=⟨_,rfl⟩
    rw[←hr]at t5
    have hrn:((n:Int).toNat-r)=n-r:=by omega
    have hCt:C.take r=K1:=by rw[hC,hr,List.take_left]
    have hsr:bM (C.map ai.enc) r (jO (.agg #[.int .i64 0,.int .i64 0,.string ⟨#[]⟩]) (n-r))=(St.aT c L).map ai.enc++List.replicate (L.length-(St.aT c L).length) A3:=by
     unfold bM
     rw[←List.map_take,hCt,List.drop_of_length_le (by simp[jO];omega),List.append_nil,hK2,hn,←hr]
     rfl
    have hfo:H.set id (.arr 25 3 ver ((St.aT c L).map ai.enc++List.replicate (L.length-(St.aT c L).length) A3))=E1:=hE1
    have gE:E1[id]?=some (.arr 25 3 ver ((St.aT c L).map ai.enc++List.replicate (L.length-(St.aT c L).length) A3)):=by rw[←hfo];simp[hid]
    simp -implicitDefEqProofs only[↓reduceIte,go_sem,Nat.reduceAdd,Nat.reduceLT,Nat.reduceEqDiff,reduceCtorEq,eq_self,t0,t5,t6,t7,gC,hlt]
    refine⟨by omega,.inr (by omega),?_⟩
    rw[hsr,nr,hfo]
    simp -implicitDefEqProofs only[↓reduceIte,go_sem,Nat.reduceLT,Int.reduceLE,Int.reduceToNat,eq_self,gE]
    refine⟨by omega,.inl trivial,_,ar.refl _ _,?_⟩
    simp -implicitDefEqProofs only[↓reduceIte,go_sem,Nat.reduceLT,eq_self,hK2,←hr,Nat.sub_zero]
 ·rintro s H' ⟨rfl,hp,t0,t1,t5⟩
  have hsame:St.aT c L=L:=by rwa[show n-1+1=n by omega,←hn,List.take_length]at hp
  have he:H'=E1:=by rw[←hE1,pM _ _ _ _ _ hsame,hE0]
  simp -implicitDefEqProofs only[↓reduceIte,go_sem,Nat.reduceLT,Nat.reduceEqDiff,reduceCtorEq,eq_self,t0,t5,gh,show(((n-1:Nat):Int)+1<(n:Int))=False from eq_false (by omega)]
  rw[←he,hsame,hn]
  refine aw.bq ?_
  simp -implicitDefEqProofs only[↓reduceIte,go_sem,Nat.reduceLT,eq_self]
end SV
end Go.Proofs.YtmbagpfmfiegkaaGreat
namespace Go.Proofs.YtmbagpfmfiegkaaGreat
open Go.Proofs.YtmbagpfmfiegkaaGreatAw Go.RowKit
def dF(n:Int):Prop:=-9223372036854775808≤n∧n≤9223372036854775807
theorem dF.of{n:Int}(h:(Lit.int .i64 n).wf=true):dF n:=by
 have h:IntKind.i64.min≤n∧n≤IntKind.i64.max:=by simpa[Lit.wf]using h
 have h0:IntKind.i64.min=-9223372036854775808:=by decide
 have h1:IntKind.i64.max=9223372036854775807:=by decide
 exact⟨by omega,by omega⟩
theorem dp.FN{xs:List D}(h:dp [] xs):xs=[]:=by cases h;rfl
theorem dp.cons_inv{s:Sh}{ss:List Sh}{xs:List D}(h:dp (s::ss) xs):∃x xs',xs=x::xs'∧Fits s x∧dp ss xs':=by cases h with|cons h t=>exact⟨_,_,rfl,h,t⟩
theorem Fits.tJ{k:IntKind}{d:D}(h:Fits (.int k) d):∃n,d= .v (.int k n)∧(Lit.int k n).wf=true:=by cases h with|int k n h=>exact⟨n,rfl,h⟩
theorem Fits.sJ{d:D}(h:Fits (.int .i64) d):∃n,d= .v (.int .i64 n)∧dF n:=by obtain⟨n,rfl,g⟩:=Fits.tJ h;exact⟨n,rfl,.of g⟩
theorem Fits.Fc{d:D}(h:Fits .str d):∃s,d= .v (.string s)∧s.size≤140737488351232:=by cases h with|str s h=>exact⟨s,rfl,h⟩
theorem Fits.Bv{b:Nat}{es:List Sh}{d:D}(h:Fits (.slice b es) d):∃l,d= .list false l∧l.length* b≤140737488351232∧∀e∈l,dp es e:=by cases h with|slice b es l h1 h2 h=>exact⟨l,rfl,h1,h⟩
theorem zG{α:Type}{enc:α→List D}{p:α→Prop}:∀{l:List (List D)},(∀e∈l,∃a,e=enc a∧p a)→∃la:List α,l=la.map enc∧∀a∈la,p a
 |[],_=>⟨[],rfl,fun a h=>by simp at h⟩
 |e::l,h=>by
  obtain⟨a,rfl,ha⟩:=h e (List.mem_cons_self ..)
  obtain⟨la,rfl,hl⟩:=zG (l:=l) fun e he=>h e (by simp[he])
  exact⟨a::la,rfl,fun b hb=>by rcases List.mem_cons.1 hb with rfl|hb;exact ha;exact hl b hb⟩
structure ai.Ok (v:ai):Prop where
 kind:dF v.kind
 i:dF v.i
 s:v.s.size≤140737488351232
structure Atom.Ok (a:Atom):Prop where
 Kn:dF a.Kn
 op:dF a.op
 val:a.val.Ok
def Ey:List Sh:=[.int .i64,.int .i64,.str]
theorem FJ{ds:List D}(h:dp Ey ds):∃v:ai,ds=v.enc∧v.Ok:=by
 obtain⟨x,xs,rfl,hx,h⟩:=dp.cons_inv h
 obtain⟨y,xs,rfl,hy,h⟩:=dp.cons_inv h
 obtain⟨z,xs,rfl,hz,h⟩:=dp.cons_inv h
 cases dp.FN h
 obtain⟨k,rfl,hk⟩:=Fits.sJ hx
 obtain⟨i,rfl,hi⟩:=Fits.sJ hy
 obtain⟨s,rfl,hs⟩:=Fits.Fc hz
 exact⟨⟨k,i,s⟩,rfl,hk,hi,hs⟩
theorem Dx{b:Nat}{d:D}(h:Fits (.slice b Ey) d):∃l:List ai,d= .list false (l.map ai.enc)∧l.length* b≤140737488351232∧∀v∈l,v.Ok:=by
 obtain⟨l,rfl,h1,h2⟩:=Fits.Bv h
 obtain⟨la,rfl,h3⟩:=zG (enc:=ai.enc) (p:=ai.Ok) fun e he=>FJ (h2 e he)
 exact⟨la,rfl,by simpa using h1,h3⟩
theorem oK{P:Program}{t:TypeId}{x:AV}{sh:Sh}(h:jc P t x)(hg:fJ P t=some false)(hs:qm P 9 t=some [sh]):∃d,x= .d d∧Fits sh d:=by
 rcases h with⟨_,sh',d,hs',hf,rfl⟩|⟨hg',_⟩
 ·rw[hs]at hs';cases hs';exact⟨d,rfl,hf⟩
 ·rw[hg]at hg';cases hg'
def HW(a b:ai):Bool:=decide (aO a b=0)
theorem uN(a b:ai)(H:aa):ag Tryz.prog 154 [a.av,b.av] H (.ok (bA (HW a b))) H:=by
 refine ag.aj (hint:=(fun _=>false)) Tryz.func154 (by kernel_rfl) rfl [4] (by kernel_rfl) (by decide) (by simp[Tryz.ntmps154]) ?_
 rw[Tryz.ntmps154]
 simp -implicitDefEqProofs only[↓reduceIte,go_sem,ah,Nat.reduceAdd,Nat.reduceLT,Nat.reduceEqDiff,eq_self]
 refine ab.ok (dI a b _) ?_
 simp -implicitDefEqProofs only[↓reduceIte,go_sem,Nat.reduceLT,eq_self]
 refine aw.ret ?_
 simp -implicitDefEqProofs only[↓reduceIte,go_sem,Nat.reduceLT,eq_self,HW]
theorem y4(l:List ai)(nn:Bool)(H:aa)(hl:l.length≤10000000000):ag Tryz.prog 119 [.d (.list nn (l.map ai.enc))] H (.ok (.d (.list false ((aQ aO l).map ai.enc)))) H:=by
 have ho:St.Ord (SV.c6 aO):=bg.ord
 obtain⟨H1,hH1⟩:∃H1,H1=H++[aA.arr 25 3 1 (l.map ai.enc)]:=⟨_,rfl⟩
 have hid:H.length<H1.length:=by rw[hH1];simp
 have e0:H1=SV.aH H1 H.length 1 l:=by
  unfold SV.aH
  rw[hH1];simp
 have hs:=SV.Bp H1 H.length 1 hid 63 [] aO ho (fun o x y=>dI x y _) l.length (by omega) l rfl
 rw[←e0]at hs
 have hc:=SV.sx H1 H.length 1 hid 154 [] HW (fun o x y=>uN x y _) l.length (by omega) (St.bN (SV.c6 aO) l) (St.cG _)
 have hk:=SV.xf l nn H (by omega)
 rw[←hH1]at hk
 have hn:St.aT HW (St.bN (SV.c6 aO) l)=aQ aO l:=rfl
 have hfin:SV.rB H1 H.length 1 HW (St.bN (SV.c6 aO) l)=H++[aA.arr 25 3 1 ((aQ aO l).map ai.enc++List.replicate (l.length-(aQ aO l).length) SV.A3)]:=by
  unfold SV.rB
  rw[hH1,St.cG,hn]
  simp
 refine ag.aj (hint:=(fun _=>false)) Tryz.func119 (by kernel_rfl) rfl [2] (by kernel_rfl) (by decide) (by simp[Tryz.ntmps119]) ?_
 rw[Tryz.ntmps119]
 simp -implicitDefEqProofs only[↓reduceIte,go_sem,Nat.reduceLT,reduceCtorEq,eq_self]
 refine ab.ok hk ?_
 simp -implicitDefEqProofs only[↓reduceIte,go_sem,Nat.reduceLT,eq_self]
 refine ab.ok hs ?_
 simp -implicitDefEqProofs only[↓reduceIte,go_sem,Nat.reduceLT,Nat.reduceEqDiff,eq_self]
 refine ab.ok hc ?_
 rw[hfin]
 simp -implicitDefEqProofs only[↓reduceIte,go_sem,Nat.reduceLT,eq_self,hn]
 refine aw.ret ?_
 have ht:((aQ aO l).map ai.enc++List.replicate (l.length-(aQ aO l).length) SV.A3).take (aQ aO l).length=(aQ aO l).map ai.enc:=by rw[List.take_left' (by simp)]
 simp -implicitDefEqProofs only[↓reduceIte,go_sem,Nat.reduceLT,eq_self,ht]
theorem lv.F0{α:Type}{c:α→α→Int}(h:lv c){x y z:α}(e:c x y=0):c x z<0↔c y z<0:=by
 have e':=(h.zero x y).1 e
 constructor
 ·intro g
  rcases h.cK x y z g with g1|g1
  ·omega
  ·exact g1
 ·intro g
  rcases h.cK y x z g with g1|g1
  ·omega
  ·exact g1
def mT(W:List ai):Prop:=W.Pairwise (fun x y=>oS aO x y=true)
theorem mT.get{W:List ai}(h:mT W){i j:Nat}{x y:ai}(hx:W[i]?=some x)(hy:W[j]?=some y):aO x y<0↔i<j:=by
 have key:∀{i j:Nat} {x y:ai},W[i]?=some x→W[j]?=some y→i<j→aO x y<0:=by
  intro i j x y hx hy hij
  obtain⟨h1,rfl⟩:=List.getElem?_eq_some_iff.1 hx
  obtain⟨h2,rfl⟩:=List.getElem?_eq_some_iff.1 hy
  have:=List.pairwise_iff_getElem.1 h i j h1 h2 hij
  simpa[oS]using this
 constructor
 ·intro g
  rcases Nat.lt_trichotomy i j with h1|h1|h1
  ·exact h1
  ·subst h1
   rw[hx]at hy;cases hy
   have:=bg.self x
   omega
  ·have:=key hy hx h1
   have:=(bg.ff x y).1 g
   omega
 ·exact key hx hy
theorem mT.below{v:ai}:∀{W:List ai},mT W→∀{i:Nat} {y:ai},W[i]?=some y→(aO y v<0↔i<kD W v)
 |[],_,i,y,hy=>by simp at hy
 |x::t,h,i,y,hy=>by
  have h1:=List.pairwise_cons.1 h
  have hb:kD (x::t) v=kD t v+if aO x v<0 then 1 else 0:=by
   unfold kD
   rw[List.countP_cons]
   by_cases h:aO x v<0<;>simp[h]
  by_cases hx:aO x v<0
  ·rw[hb,if_pos hx]
   cases i with
   |zero=>
    simp at hy;subst hy
    simp[hx]
   |succ i=>
    have:=mT.below (v:=v) h1.2 (i:=i) (y:=y) (by simpa using hy)
    omega
  ·rw[hb,if_neg hx,Nat.add_zero]
   have hz:kD t v=0:=by
    unfold kD
    rw[List.countP_eq_zero]
    intro w hw
    have h2:=h1.1 w hw
    intro h3
    have h4:=bg.ord.trans h2 (show oS aO w v=true by simpa[oS]using h3)
    exact hx (by simpa[oS]using h4)
   rw[hz]
   refine⟨fun g=>?_,fun g=>by omega⟩
   exfalso
   cases i with
   |zero=>simp at hy;subst hy;exact hx g
   |succ i=>
    have hyt:y∈t:=List.mem_of_getElem? (i:=i) (by simpa using hy)
    have:0<kD t v:=by
     unfold kD
     rw[List.countP_pos_iff]
     exact⟨y,hyt,by simpa using g⟩
    omega
theorem lN(l:List ai):mT (aQ aO l):=xc bg l
theorem y5{W:List ai}{a:ai}(h:∃y∈W,aO y a=0):∃(i:Nat) (y:ai),cP W a=i∧W[i]?=some y∧aO y a=0:=by
 obtain⟨y,hy,hc⟩:=h
 have hany:W.any (fun w=>decide (aO w a=0))=true:=List.any_eq_true.2 ⟨y,hy,by simpa using hc⟩
 have hlt:W.findIdx (fun w=>decide (aO w a=0))<W.length:=List.findIdx_lt_length_of_exists ⟨y,hy,by simpa using hc⟩
 refine⟨W.findIdx (fun w=>decide (aO w a=0)),W[W.findIdx (fun w=>decide (aO w a=0))],?_,List.getElem?_eq_getElem hlt,?_⟩
 ·unfold cP oB
  rw[if_pos hany]
 ·have:=List.findIdx_getElem (w:=hlt)
  simpa using this
theorem gW{l:List ai}{a:ai}(h:a∈l):∃(i:Nat) (y:ai),cP (aQ aO l) a=i∧(aQ aO l)[i]?=some y∧aO y a=0:=by
 obtain⟨y,hy,hc⟩:=Cf bg h
 exact y5 ⟨y,hy,(bg.zero a y).1 hc⟩
def dY(l:List ai)(a:ai):Nat:=(cP (aQ aO l) a).toNat
theorem qK(l:List ai):fG (aQ aO l) l=true:=by
 unfold fG
 rw[List.all_eq_true]
 intro a ha
 obtain⟨i,y,hi,_⟩:=gW ha
 rw[hi];simp
theorem sP(l:List ai):sN (aQ aO l) l= .bf [.d (.list false (us (l.map (dY l)))),iA 0]:=by
 unfold sN yi xE
 rw[qK]
 rfl
def eu(n:Nat):Nat:=dN (n-1)
theorem sO{n:Nat}(h:n≤4096):eu n≤12:=(fE _ 12).2 (by omega)
theorem DR(n:Nat):cZ [n]=dN n:=by simp[cZ]
theorem oi(n:Nat)(hn:n≤1000000000000)(H:aa):ag Tryz.prog 122 [iA n] H (.ok (iA (eu n))) H:=by
 have hw:=fun H=>lZ [n-1] true H (by simp) (by intro x hx;simp at hx;omega)
 rw[DR]at hw
 have m:max (IntKind.i64.wrap ((n:Int)-1)) 0=((n-1:Nat):Int):=by rw[wrap64_in _ (by omega) (by omega)];omega
 have u:=aU (n-1) (by omega)
 have hus:us [n-1]=[[.v (.int .u64 ((n-1:Nat):Int))]]:=rfl
 rw[hus]at hw
 unfold eu
 generalize ((n-1:Nat):Int)=q at*
 generalize dN (n-1)=r at*
 refine ag.aj (hint:=(fun _=>false)) Tryz.func122 (by kernel_rfl) rfl [2] (by kernel_rfl) (by decide) (by simp[Tryz.ntmps122]) ?_
 rw[Tryz.ntmps122]
 simp -implicitDefEqProofs only[↓reduceIte,go_sem,Nat.reduceLT,Nat.reduceLeDiff,reduceCtorEq,eq_self,m,u,List.foldl_cons,List.foldl_nil]
 refine ab.ok (hw _) ?_
 simp -implicitDefEqProofs only[↓reduceIte,go_sem,Nat.reduceLT,eq_self]
 refine aw.bq ?_
 simp -implicitDefEqProofs only[↓reduceIte,go_sem,Nat.reduceLT,eq_self]
def aW(W:List ai):List Nat:=W.flatMap cS
theorem iv(W:List ai)(v:ai):aW (W++[v])=aW W++cS v:=by simp[aW]
def fa(l:List ai):List Nat:=a9 (aQ aO l).length++aW (aQ aO l)++cI (l.map (dY l)) (eu (aQ aO l).length)
def ln(l:List ai)(k:Int):List Nat:=if aL l k=0 then fa l else[]
theorem eF{l:List ai}{k:Int}(h:aL l k=0):∀v∈l,cT v=true:=by
 unfold aL at h
 intro v hv
 by_cases h1:l.any (fun v=> !cT v)=true
 ·rw[if_pos h1]at h
  repeat' split at h
  all_goals omega
 ·have h2:l.any (fun v=> !cT v)=false:=by simpa using h1
  have:=List.any_eq_false.1 h2 v hv
  simpa using this
theorem u9{l:List ai}{a:ai}(h:a∈l):dY l a<(aQ aO l).length:=by
 obtain⟨i,y,h1,h2,_⟩:=gW h
 unfold dY
 rw[h1]
 have:=(List.getElem?_eq_some_iff.1 h2).1
 omega
theorem kI(l:List ai):(aQ aO l).length≤l.length:=by
 have h:=St.tv (eq:=fun a b=>decide (aO a b=0)) (St.bN (oS aO) l)
 rwa[St.cG]at h
theorem r9{l:List ai}:∀n∈l.map (dY l),n<2^eu (aQ aO l).length:=fun n hn=>by
 obtain⟨a,ha,rfl⟩:=List.mem_map.1 hn
 have h1:=u9 ha
 have h2:=(fE ((aQ aO l).length-1) (eu (aQ aO l).length)).1 (Nat.le_refl _)
 omega
theorem dx{v:ai}(hi:-9223372036854775808≤v.i∧v.i≤9223372036854775807)(hm:cT v=true):(cS v).length≤1035:=by
 unfold cS
 have hz:=gd hi.1 hi.2
 by_cases h1:v.kind=1
 ·rw[if_pos h1];have:=bn 10 (fU v.i) (by omega);omega
 rw[if_neg h1]
 by_cases h2:v.kind=2
 ·rw[if_pos h2,im];omega
 rw[if_neg h2]
 by_cases h3:v.kind=3
 ·rw[if_pos h3]
  have hs:=po hm h3
  have:=bn 10 v.s.size (by omega)
  rw[lk,List.length_append,gU]
  omega
 ·rw[if_neg h3];simp
theorem pC(l:List ai)(k:Int)(hok:∀v∈l,dF v.i)(H:aa)(hl:l.length≤1000000000000):
  ag Tryz.prog 84 [.d (.list false (l.map ai.enc)),iA k] H (.ok (.bf [.d (.list false (aG (ln l k))),iA (aL l k)])) H:=by
 by_cases hp:aL l k=0
 ·have hd:ln l k=fa l:=by unfold ln;rw[if_pos hp]
  have hmay:=eF hp
  have h4:=dX hp
  have hwl:=kI l
  have hW:∀w∈aQ aO l,w∈l:=fun w hw=>ej bg hw
  have hcf:=r9 (l:=l)
  have hcd:=fun H=>xy (aQ aO l) l false false H (by omega) (by omega)
  have hwd:=fun H=>y4 l false H (by omega)
  rw[sP]at hcd
  have hB:fa l=a9 (aQ aO l).length++aW (aQ aO l)++cI (l.map (dY l)) (eu (aQ aO l).length):=rfl
  have hcl:(l.map (dY l)).length=l.length:=by simp
  rw[hd,hp]
  generalize l.map (dY l)=C at*
  generalize aQ aO l=W at*
  have hpk:=cI
  have hwid:=sO (n:=W.length) (by omega)
  have l1:=bn 10 W.length (by omega)
  have hWb:∀k,k≤W.length→(aW (W.take k)).length≤k* 1035:=by
   intro k
   induction k with
   |zero=>intro _;simp[aW]
   |succ k ih=>
    intro hk
    have hk':k<W.length:=by omega
    rw[List.take_succ_eq_append_getElem hk',iv,List.length_append]
    have h1:=ih (by omega)
    have hm:=hW _ (List.getElem_mem hk')
    have h2:=dx (hok _ hm) (hmay _ hm)
    omega
  refine ag.aj (hint:=(fun _=>false)) Tryz.func84 (by kernel_rfl) rfl [4,5] (by kernel_rfl) (by decide) (by simp[Tryz.ntmps84]) ?_
  rw[Tryz.ntmps84]
  simp -implicitDefEqProofs only[↓reduceIte,go_sem,Nat.reduceLT,Nat.reduceEqDiff,reduceCtorEq,eq_self]
  refine ab.ok (dW l k false _ (by omega)) ?_
  rw[hp]
  simp -implicitDefEqProofs only[↓reduceIte,go_sem,Nat.reduceLT,reduceCtorEq,eq_self]
  refine ab.ok (hwd _) ?_
  simp -implicitDefEqProofs only[↓reduceIte,go_sem,Nat.reduceLT,eq_self,List.length_map,aU W.length (by omega)]
  refine ab.ok (fN W.length (by omega) _) ?_
  simp -implicitDefEqProofs only[↓reduceIte,go_sem,Nat.reduceLT,Nat.reduceEqDiff,eq_self,List.length_map]
  refine bl (fun j s H'=>∃ver,H'=H++[.arr 5 1 ver (aG (a9 W.length++aW (W.take j)))]∧s 0= .d (.list false (l.map ai.enc))∧s 7= .d (.list false (W.map ai.enc))∧s 8= .sl H.length ver 0 (a9 W.length++aW (W.take j)).length∧s 29= .d (.list false (W.map ai.enc))∧s 30=iA W.length∧s 31=iA j) W.length (by omega) (ar.refl _ _) ?_ ?_ ?_
  ·refine⟨(a9 W.length).length,?_,?_⟩
   ·rw[show aW (W.take 0)=[]from rfl,List.append_nil]
   ·rw[show aW (W.take 0)=[]from rfl,List.append_nil]
    simp -implicitDefEqProofs only[↓reduceIte,go_sem,Nat.reduceLT,Nat.reduceEqDiff,reduceCtorEq,eq_self]
  ·rintro j s H' hj hw ⟨ver,rfl,t0,t7,t8,t29,t30,t31⟩
   have hx:=List.getElem?_eq_getElem hj
   have hm:=hW _ (List.getElem_mem hj)
   have hb:=hWb j (by omega)
   have hvl:=dx (hok _ hm) (hmay _ hm)
   have e1:a9 W.length++aW (W.take (j+1))=(a9 W.length++aW (W.take j))++cS W[j]:=by rw[List.take_succ_eq_append_getElem hj,iv,List.append_assoc]
   have hvd:=fun H=>ey W[j] (hok _ hm) (hmay _ hm) H
   rw[e1]
   have hBl:(a9 W.length++aW (W.take j)).length≤11+j* 1035:=by rw[List.length_append];omega
   generalize a9 W.length++aW (W.take j)=B at*
   generalize W[j]=w at*
   simp -implicitDefEqProofs only[↓reduceIte,go_sem,ah,ak,Nat.reduceAdd,Nat.reduceLT,Nat.reduceEqDiff,eq_self,t29,t30,t31,hj,hx,ai.enc]
   refine ab.ok (hvd _) ?_
   simp -implicitDefEqProofs only[↓reduceIte,go_sem,Nat.reduceLT,Nat.reduceEqDiff,eq_self,t8,aS,al,eB]
   refine⟨by omega,by omega,?_⟩
   simp -implicitDefEqProofs only[↓reduceIte,go_sem,Nat.reduceLT,eq_self,t31]
   refine eQ.cut [.arr 5 1 (ver+1) (aG (B++cS w))] [.box 25 3 0 1 [iA w.kind,iA w.i,sA w.s]] 1 rfl rfl (by simp -implicitDefEqProofs only[go_sem,eq_self]) ?_
   refine⟨ver+1,rfl,?_⟩
   simp -implicitDefEqProofs only[↓reduceIte,go_sem,Nat.reduceLT,Nat.reduceEqDiff,reduceCtorEq,eq_self,t0,t7,t29,t30,hw]
  ·rintro s H' ⟨ver,rfl,t0,t7,t8,t29,t30,t31⟩
   rw[show W.take W.length=W from List.take_length]at*
   have hb:=hWb W.length (Nat.le_refl _)
   rw[List.take_length]at hb
   have l3:(cI C (eu W.length)).length≤100000:=by
    rw[cI,cx,en]
    have:C.length* eu W.length≤4096* 12:=Nat.mul_le_mul (by omega) hwid
    omega
   have l4:(a9 W.length++aW W).length≤11+4096* 1035:=by rw[List.length_append];omega
   simp -implicitDefEqProofs only[↓reduceIte,go_sem,Nat.reduceLT,Nat.reduceEqDiff,reduceCtorEq,eq_self,t0,t7,t30,t31]
   refine ab.ok (hcd _) ?_
   simp -implicitDefEqProofs only[↓reduceIte,go_sem,Nat.reduceLT,Nat.reduceEqDiff,eq_self,t7,List.length_map]
   refine ab.ok (oi W.length (by omega) _) ?_
   simp -implicitDefEqProofs only[↓reduceIte,go_sem,Nat.reduceLT,Nat.reduceEqDiff,eq_self]
   refine ab.ok (rL C (eu W.length) (by omega) hcf (by omega) false _) ?_
   rw[hB]
   generalize cI C (eu W.length)=Z at*
   generalize a9 W.length++aW W=B at*
   simp -implicitDefEqProofs only[↓reduceIte,go_sem,Nat.reduceLT,Nat.reduceEqDiff,eq_self,t8,aS,al,eB]
   refine⟨by omega,by omega,aw.ret ?_⟩
   have ht:(aG (B++Z)).take (B.length+Z.length)=aG (B++Z):=List.take_of_length_le (by rw[al,List.length_append];omega)
   simp -implicitDefEqProofs only[↓reduceIte,go_sem,Nat.reduceLT,Nat.reduceEqDiff,eq_self,ht]
 ·have hd:ln l k=[]:=by unfold ln;rw[if_neg hp]
  rw[hd]
  refine ag.bY (cs:=[.d (.v (.slice none 0 0)),iA (aL l k)]) ?_ (.cons .nil (.cons (.refl _) .nil))
  refine ag.aj (hint:=(fun _=>false)) Tryz.func84 (by kernel_rfl) rfl [4,5] (by kernel_rfl) (by decide) (by simp[Tryz.ntmps84]) ?_
  rw[Tryz.ntmps84]
  simp -implicitDefEqProofs only[↓reduceIte,go_sem,Nat.reduceLT,Nat.reduceEqDiff,reduceCtorEq,eq_self]
  refine ab.ok (dW l k false _ (by omega)) ?_
  simp -implicitDefEqProofs only[↓reduceIte,go_sem,Nat.reduceLT,Nat.reduceEqDiff,eq_self,hp]
  refine aw.bq ?_
  simp -implicitDefEqProofs only[↓reduceIte,go_sem,Nat.reduceLT,Nat.reduceEqDiff,eq_self]
theorem bC(k:Int)(H:aa):ag Tryz.prog 78 [.d (.v (.slice none 0 0)),iA 0,iA k] H (.ok (.bf [.d (.v (.slice none 0 0)),iA (if bI k then 0 else 1)])) H:=by
 cases hk:bI k with
 |false=>
  refine ag.aj (hint:=(fun _=>false)) Tryz.func78 (by kernel_rfl) rfl [6,7] (by kernel_rfl) (by decide) (by simp[Tryz.ntmps78]) ?_
  rw[Tryz.ntmps78]
  simp -implicitDefEqProofs only[↓reduceIte,go_sem,ah,Nat.reduceLT,Nat.reduceEqDiff,eq_self]
  refine ab.ok (eD k _) ?_
  simp -implicitDefEqProofs only[↓reduceIte,go_sem,Nat.reduceLT,eq_self,hk]
  refine aw.ret ?_
  simp -implicitDefEqProofs only[↓reduceIte,go_sem,Nat.reduceLT,Nat.reduceEqDiff,eq_self,Bool.false_eq_true]
 |true=>
  refine ag.aj (hint:=(fun _=>false)) Tryz.func78 (by kernel_rfl) rfl [6,7] (by kernel_rfl) (by decide) (by simp[Tryz.ntmps78]) ?_
  rw[Tryz.ntmps78]
  simp -implicitDefEqProofs only[↓reduceIte,go_sem,ah,Nat.reduceLT,Nat.reduceEqDiff,eq_self]
  refine ab.ok (eD k _) ?_
  simp -implicitDefEqProofs only[↓reduceIte,go_sem,Nat.reduceLT,Nat.reduceEqDiff,Int.reduceLT,reduceCtorEq,eq_self,hk]
  refine bl (fun j s H'=>H'=H++[.box 22 1 0 1 [.d (.v (.slice none 0 0))],.box 3 1 0 1 [iA k]]∧s 3= .ptr H.length 0 0 0∧s 9= .d (.v (.slice none 0 0))∧s 24=iA 0∧s 25=iA j) 0 (by omega) (ar.refl _ _) ?_ ?_ ?_
  ·refine⟨rfl,?_⟩
   simp -implicitDefEqProofs only[↓reduceIte,go_sem,Nat.reduceLT,Nat.reduceEqDiff,eq_self]
  ·rintro j s H' hj
   omega
  ·rintro s H' ⟨rfl,t3,t9,t24,t25⟩
   simp -implicitDefEqProofs only[↓reduceIte,go_sem,ah,Nat.reduceLT,Nat.reduceEqDiff,Int.reduceLT,eq_self,t3,t9,t24,t25]
   refine aw.ret ?_
   simp -implicitDefEqProofs only[↓reduceIte,go_sem,Nat.reduceLT,Nat.reduceEqDiff,eq_self]
def jd(o:List Nat)(c:Nat):List Nat:=if c∈o then o else o++[c]
def ep(l:List Nat):List Nat:=l.foldl jd []
def gZ(l:List Nat):List (Int×AV):=l.map fun(c:Nat)=>((c:Int),bA true)
theorem wq(c:Nat):∀(l:List Nat) (i:Nat),c∈l→∃j,fI (c:Int) (gZ l) i=some (i+j,bA true)∧l[j]?=some c
 |[],_,h=>by simp at h
 |m::l,i,h=>by
  simp only[gZ,List.map_cons,fI]
  by_cases e:c=m
  ·exact⟨0,by simp[e],by simp[e]⟩
  ·rw[if_neg (by omega)]
   obtain⟨j,h1,h2⟩:=wq c l (i+1) (by simpa[e]using h)
   exact⟨j+1,by rw[show fI (c:Int) (List.map (fun(c:Nat)=>((c:Int),bA true)) l) (i+1)=_ from h1,Nat.add_assoc,Nat.add_comm 1],by simpa using h2⟩
theorem rj(c:Nat):∀(l:List Nat) (i:Nat),c∉l→fI (c:Int) (gZ l) i=none
 |[],_,_=>rfl
 |m::l,i,h=>by
  simp only[List.mem_cons,not_or]at h
  simp only[gZ,List.map_cons,fI]
  rw[if_neg (by omega)]
  exact rj c l (i+1) h.2
theorem Cw(l:List Nat):(gZ l).length=l.length:=by simp[gZ]
theorem yZ(c:Nat)(l:List Nat):j3 (c:Int) (bA true) (gZ l)=gZ (jd l c):=by
 unfold j3 jd
 by_cases h:c∈l
 ·obtain⟨j,h1,h2⟩:=wq c l 0 h
  rw[if_pos h,h1,Nat.zero_add]
  simp only
  obtain⟨hj,he⟩:=List.getElem?_eq_some_iff.1 h2
  apply List.ext_getElem
  ·simp
  ·intro i i1 i2
   rw[List.getElem_set]
   split
   ·rename_i e
    subst e
    simp[gZ,he]
   ·rfl
 ·rw[if_neg h,rj c l 0 h]
  simp[gZ]
theorem yr(l:List Nat)(k:Nat)(h:k<l.length):ep (l.take (k+1))=jd (ep (l.take k)) l[k]:=by
 unfold ep
 rw[List.take_succ_eq_append_getElem h,List.foldl_append];rfl
theorem Ca(o:List Nat)(c x:Nat):x∈jd o c↔x∈o∨x=c:=by
 unfold jd
 split
 ·rename_i h
  constructor
  ·exact .inl
  ·rintro(h'|rfl)
   ·exact h'
   ·exact h
 ·simp
theorem rU(x:Nat):∀(l o:List Nat),x∈l.foldl jd o↔x∈o∨x∈l
 |[],o=>by simp
 |c::l,o=>by
  rw[List.foldl_cons,rU x l,Ca,List.mem_cons,or_assoc]
theorem fp(l:List Nat)(x:Nat):x∈ep l↔x∈l:=by
 unfold ep
 rw[rU];simp
theorem nQ:∀(l o:List Nat),o.Nodup→(l.foldl jd o).Nodup
 |[],o,h=>h
 |c::l,o,h=>by
  rw[List.foldl_cons]
  refine nQ l _ ?_
  unfold jd
  split
  ·exact h
  ·rename_i hc
   rw[List.nodup_append]
   refine⟨h,by simp,?_⟩
   intro a ha b hb e
   simp at hb
   subst hb
   exact hc (e▸ha)
theorem nS(l:List Nat):(ep l).Nodup:=nQ l [] List.nodup_nil
theorem Bu(o:List Nat)(c:Nat):(jd o c).length≤o.length+1:=by unfold jd;split<;>simp
theorem rG:∀(l o:List Nat),(l.foldl jd o).length≤o.length+l.length
 |[],o=>by simp
 |c::l,o=>by
  rw[List.foldl_cons,List.length_cons]
  have h1:=rG l (jd o c)
  have h2:=Bu o c
  omega
theorem AF(l:List Nat):(ep l).length≤l.length:=by have:=rG l [];simpa[ep]using this
def iq(codes:List Nat)(n:Nat):Bool:=(ep codes).all (fun c=>decide (c<n))&&decide ((ep codes).length=n)
theorem ka:∀{m:Nat} {seen:List Nat},seen.Nodup→(∀j∈seen,j<m)→seen.length≤m
 |0,seen,_,hm=>by
  cases seen with
  |nil=>simp
  |cons j r=>have:=hm j (by simp);omega
 |m+1,seen,h,hm=>by
  by_cases hi:m∈seen
  ·have h1:=ka (m:=m) (h.erase m) fun j hj=>by
    have h2:=(h.mem_erase_iff).1 hj
    have:=hm j h2.2
    omega
   rw[List.length_erase_of_mem hi]at h1
   omega
  ·have h1:=ka (m:=m) h fun j hj=>by
    have:=hm j hj
    have:j≠m:=fun e=>hi (e▸hj)
    omega
   omega
theorem BO(codes:List Nat)(n:Nat)(H:aa)(hn:n≤1000000000000)(hl:codes.length≤1000000000000)(hc:∀c∈codes,c<18446744073709551616):
  ag Tryz.prog 157 [.d (.list false (us codes)),iA n] H (.ok (bA (iq codes n))) H:=by
 have hU:iq codes n=((ep codes).all (fun c=>decide (c<n))&&decide ((ep codes).length=n)):=rfl
 have hml:=AF codes
 have hnu:=aU n (by omega)
 refine ag.aj (hint:=(fun _=>false)) Tryz.func157 (by kernel_rfl) rfl [4] (by kernel_rfl) (by decide) (by simp[Tryz.ntmps157]) ?_
 rw[Tryz.ntmps157]
 simp -implicitDefEqProofs only[↓reduceIte,go_sem,Nat.reduceLT,reduceCtorEq,eq_self]
 refine bl (fun k s H'=>H'=H++[.mp .u64 (gZ (ep (codes.take k)))]∧s 1=iA n∧s 5= .mp H.length∧s 10= .d (.list false (us codes))∧s 11=iA codes.length∧s 12=iA k) codes.length (by omega) (ar.refl _ _) ?_ ?_ ?_
 ·refine⟨rfl,?_⟩
  simp -implicitDefEqProofs only[↓reduceIte,go_sem,Nat.reduceLT,Nat.reduceEqDiff,eq_self,fT]
 ·rintro k s H' hk hw ⟨rfl,t1,t5,t10,t11,t12⟩
  have hx:=nJ codes k hk
  have hp:=yZ codes[k] (ep (codes.take k))
  rw[yr codes k hk]
  generalize codes[k]=c at*
  generalize ep (codes.take k)=o at*
  simp -implicitDefEqProofs only[↓reduceIte,go_sem,Nat.reduceLT,Nat.reduceEqDiff,eq_self,t5,t10,t11,t12,hk,hx,hp]
  refine eQ.same ⟨rfl,?_⟩
  simp -implicitDefEqProofs only[↓reduceIte,go_sem,Nat.reduceLT,Nat.reduceEqDiff,eq_self,t1,t5,t10,t11,hw]
 ·rintro s H' ⟨rfl,t1,t5,t10,t11,t12⟩
  rw[List.take_length]
  have hE:∀j e,(gZ (ep codes))[j]?=some e→∃c:Nat,(ep codes)[j]?=some c∧e=((c:Int),bA true)∧c<18446744073709551616:=fun j e he=>by
   unfold gZ at he
   rw[List.getElem?_map]at he
   rcases hc':(ep codes)[j]? with _|(c:Nat)
   ·rw[hc']at he;simp at he
   ·rw[hc']at he
    simp at he
    exact⟨c,hc',he.symm,hc c ((fp codes c).1 (List.mem_of_getElem? hc'))⟩
  generalize hT:ep codes=T at*
  have hel:=Cw T
  simp -implicitDefEqProofs only[↓reduceIte,go_sem,Nat.reduceLT,Nat.reduceEqDiff,eq_self,t5,t11,t12]
  refine cC Tryz.prog _ _ _ (fun seen s H'=>H'=H++[.mp .u64 (gZ T),.iter H.length T.length seen]∧seen.Nodup∧(∀j∈seen,j<T.length∧∀c,T[j]?=some c→c<n)∧s 1=iA n∧s 5= .mp H.length∧s 20= .ptr (H.length+1) 0 0 0) (fun seen=>T.length-seen.length) [] (ar.refl _ _) ?_ ?_
  ·refine⟨by rw[hel],List.nodup_nil,by simp,?_⟩
   simp -implicitDefEqProofs only[↓reduceIte,go_sem,Nat.reduceLT,Nat.reduceEqDiff,eq_self,t1,t5]
  ·rintro seen s H' ⟨rfl,hnd,hse,t1,t5,t20⟩
   simp -implicitDefEqProofs only[↓reduceIte,go_sem,Nat.reduceLT,Nat.reduceEqDiff,eq_self,t1,t5,t20,hel]
   refine⟨?_,?_⟩
   ·intro hall
    have hq:iq codes n=decide (T.length=n):=by
     rw[hU,List.all_eq_true.2 fun c hc=>?_,Bool.true_and]
     obtain⟨j,hj,rfl⟩:=List.mem_iff_getElem.1 hc
     simpa using(hse j (hall j hj)).2 _ (List.getElem?_eq_getElem hj)
    refine aw.ret ?_
    rw[hq,show decide (T.length=n)=decide ((T.length:Int)=(n:Int))from decide_eq_decide.2 (by omega)]
    simp -implicitDefEqProofs only[↓reduceIte,go_sem,Nat.reduceLT,eq_self]
   ·intro j e hj hns
    obtain⟨c,h1,rfl,h3⟩:=hE j e hj
    have hjl:=(List.getElem?_eq_some_iff.1 h1).1
    by_cases hcn:n≤c
    ·have hq:iq codes n=false:=by
      rw[hU,Bool.and_eq_false_iff]
      exact .inl (List.all_eq_false.2 ⟨c,List.mem_of_getElem? h1,by simpa using hcn⟩)
     simp -implicitDefEqProofs only[↓reduceIte,go_sem,Nat.reduceLT,Nat.reduceEqDiff,eq_self,List.getLast?_concat,hj,hel,t1,hnu,hcn]
     refine aw.ret ?_
     rw[hq]
     simp -implicitDefEqProofs only[↓reduceIte,go_sem,Nat.reduceLT,eq_self]
    ·simp -implicitDefEqProofs only[↓reduceIte,go_sem,Nat.reduceLT,Nat.reduceEqDiff,eq_self,List.getLast?_concat,hj,hel,t1,hnu,hcn]
     refine⟨_,_,seen++[j],ar.refl _ _,⟨rfl,?_,?_,?_⟩,?_⟩
     ·rw[List.nodup_append]
      refine⟨hnd,by simp,fun a ha b hb e=>?_⟩
      simp at hb
      subst hb
      exact hns (e▸ha)
     ·intro i hi
      rcases List.mem_append.1 hi with h|h
      ·exact hse i h
      ·simp at h
       subst h
       refine⟨hjl,fun d hd=>?_⟩
       rw[h1]at hd
       cases hd
       omega
     ·simp -implicitDefEqProofs only[↓reduceIte,go_sem,Nat.reduceEqDiff,eq_self,t1,t5,t20]
     ·have hnd2:(seen++[j]).Nodup:=by
       rw[List.nodup_append]
       refine⟨hnd,by simp,fun a ha b hb e=>?_⟩
       simp at hb
       subst hb
       exact hns (e▸ha)
      have:=ka hnd2 (m:=T.length) fun i hi=>by
       rcases List.mem_append.1 hi with h|h
       ·exact(hse i h).1
       ·simp at h;subst h;exact hjl
      simp only[List.length_append,List.length_singleton]at this⊢
      omega
end Go.Proofs.YtmbagpfmfiegkaaGreat
namespace Go.Proofs.YtmbagpfmfiegkaaGreatAw
open Go.RowKit
def BA(v:Value):FrameMode:= .panicking [{v:=v,recovered:=false}]
def FI(v:Value):FrameMode:= .panicking [{v:=v,recovered:=true}]
inductive Mode:FrameMode→Value→FrameMode→Prop
 |ret:Mode .returning .nilIface .returning
 |KE (v:Value):Mode (BA v) v (FI v)
def mP(P:Program)(f:FuncId)(args:List AV)(H:aa)(u:FrameMode)(H':aa)(u':FrameMode):Prop:=
 ∀φ N w vals,Rel H φ N w→qz H φ N w args vals→(callFunc f vals).run P w= .ok (.enter f vals) w∧
  CallsD P f vals u w fun e u1 w'=>(∃v,e= .returned v)∧u1=u'∧∃φ' N',Rel H' φ' N' w'∧au H φ N w H' φ' N' w'
theorem qz.since{H H':aa}{φ φ':aN}{N N':Addr→Prop}{w w':World}{args:List AV}{vals:Array Value}(h:qz H φ N w args vals)(hR:Rel H φ N w)(hS:au H φ N w H' φ' N' w'):qz H' φ' N' w' args vals:=
 ⟨h.1,fun i h1 h2=>(h.2 i h1 h2).since hR hS⟩
theorem mP.aj{P:Program}{hint:Nat→Bool}{f:FuncId}{fn:Func}{id:Nat}{o0 o1:Oper}{rest:Code}{d0 d1:Tmp}(hf:P.funcs[f]?=some fn)(hn:(fn.name== "runtime.NumGoroutine")=false)(hb:fn.body=some (.seq (.region id #[o0,o1] false) rest))
  (h0:∃ats,o0.op= .call {callee:= .builtin .recover,args:=#[],argTypes:=ats}) (g0:o0.guard=none) (e0:o0.dst=some d0) (h1:o1.op= .assign (.tmp d0)) (g1:o1.guard=none) (e1:o1.dst=some d1) (hl:d0<fn.ntmps) (hr:fn.results=#[])
  {args:List AV} {H H':aa} {u u':FrameMode} {v:Value} (ha:args.length≤fn.ntmps) (hm:Mode u v u')
  (h:cO P hint fn.ntmps H rest (fun e s H1=>(match e with| .normal| .ret=>True|_=>False)∧∃s',ar H s H1 s' H') (bJ fn.ntmps (bJ fn.ntmps (iY args) (some d0) (bO v)) (some d1) (bO v)) H) (hmk:hint 2000000=false:=by rfl):mP P f args H u H' u':=by
 intro φ N w vals hR hA
 refine⟨gq hf hn (by rw[hb];rfl) vals w,callsD_of_wpS hf hb fun c0 cs hc0=>wpS_seq (wpS_region ?_)⟩
 have hI:Inv H φ N w fn.ntmps ⟨false,[]⟩ (bJ fn.ntmps (bJ fn.ntmps (iY args) (some d0) (bO v)) (some d1) (bO v)) H φ N (({tmps:=vals++Array.replicate (fn.ntmps-vals.size) undef,defers:=[]}:Act).put (some d0) v|>.put (some d1) v) w:=by
  have h:Inv H φ N w fn.ntmps ⟨false,[]⟩ (iY args) H φ N {tmps:=vals++Array.replicate (fn.ntmps-vals.size) undef,defers:=[]} w:=
   ⟨hR,hA.init _,au.refl,by simp;have:=hA.1;omega,gK.refl⟩
  exact(h.put hR au.refl (ed v) (some d0)).put hR au.refl (ed v) (some d1)
 have hrec:∃cs',(match recoverD (c0::cs)with|some (x,cs')=>(x,cs')|none=>(Value.nilIface,c0::cs))=(v,cs')∧cs'={c0 with mode:=u'}::cs:=by
  subst hc0
  generalize hu:c0.mode=u at hm
  cases hm with
  |ret=>exact⟨c0::cs,by simp[recoverD,hu],by rw[←hu]⟩
  |KE v=>exact⟨_,by simp[recoverD,hu,BA];rfl,rfl⟩
 obtain⟨cs',hrec,hcs⟩:=hrec
 have hwp:=xa (fun e=>by rw[hmk]at e;cases e) hR rest _ hI h
 let R:Ending→FrameMode→World→Prop:=fun e u1 w'=>(∃v,e= .returned v)∧u1=u'∧∃φ' N',Rel H' φ' N' w'∧au H φ N w H' φ' N' w'
 have hS:Code.wpS P rest (bodyPostS P fn c0 cs R) ((({tmps:=vals++Array.replicate (fn.ntmps-vals.size) undef,defers:=[]}:Act).put (some d0) v).put (some d1) v) cs' w:=by
  refine wpS_of_wp (wp_mono hwp ?_)
  rintro e a' w' ⟨ax,s',H1,φ1,N1,rfl,⟨hq,s'',hW⟩,hI1⟩
  obtain⟨φ2,N2,hI2⟩:=hW.ok hR hI1
  have fin:a'.defers=[]∧∃u1,cs'={c0 with mode:=u1}::cs∧∃v,(results fn a'.tmps).run P w'= .ok v w'∧R (.returned v) u1 w':=
   ⟨hI2.defers.eq,u',hcs,_,jV [] (by rw[hr];rfl) (by simp) _ _,⟨_,rfl⟩,rfl,φ2,N2,hI2.rel,hI2.since⟩
  cases ax with
  |normal=>exact fin
  |ret=>exact fin
  |exit i=>exact hq.elim
  |panic v=>exact hq.elim
 have tail:wpOpsS P #[o0,o1] (Exit.thenS (Code.wpS P rest (bodyPostS P fn c0 cs R)) (bodyPostS P fn c0 cs R)) [1]
   (({tmps:=vals++Array.replicate (fn.ntmps-vals.size) undef,defers:=[]}:Act).put (some d0) v) cs' w:=by
  have hev:(({tmps:=vals++Array.replicate (fn.ntmps-vals.size) undef,defers:=[]}:Act).put (some d0) v).eval (.tmp d0)=v:=by
   have:d0<vals.size+(fn.ntmps-vals.size):=Nat.lt_of_lt_of_le hl (by omega)
   simp[Act.eval,Act.put,this]
  have hx:(execOp (({tmps:=vals++Array.replicate (fn.ntmps-vals.size) undef,defers:=[]}:Act).put (some d0) v).eval o1).run P w= .ok (.value v) w:=by
   simp only[execOp,h1,hev];rfl
  have hw:Region.wanted o1 (yielded #[o0,o1] (({tmps:=vals++Array.replicate (fn.ntmps-vals.size) undef,defers:=[]}:Act).put (some d0) v).tmps)=true:=by simp[Region.wanted,g1]
  simp only[wpOpsS,List.getElem?_toArray,List.getElem?_cons_succ,List.getElem?_cons_zero,hw,if_true,hx,Oper.upon,e1]
  exact hS
 obtain⟨ats,h0⟩:=h0
 have hx:(execOp (({tmps:=vals++Array.replicate (fn.ntmps-vals.size) undef,defers:=[]}:Act)).eval o0).run P w= .ok .recover w:=by
  simp only[execOp,h0,resolve,invoke]
  rfl
 have hw:Region.wanted o0 (yielded #[o0,o1] (({tmps:=vals++Array.replicate (fn.ntmps-vals.size) undef,defers:=[]}:Act)).tmps)=true:=by simp[Region.wanted,g0]
 show wpOpsS P #[o0,o1] _ [0,1] _ _ _
 unfold wpOpsS
 simp only[List.getElem?_toArray,List.getElem?_cons_zero,hw,if_true,hx,e0]
 revert hrec
 cases recoverD (c0::cs)with
 |none=>
  intro hrec
  have e1:Value.nilIface=v:=congrArg Prod.fst hrec
  have e2:c0::cs=cs':=congrArg Prod.snd hrec
  simp only[e1,e2]
  exact tail
 |some p=>
  intro hrec
  have e1:p.1=v:=congrArg Prod.fst hrec
  have e2:p.2=cs':=congrArg Prod.snd hrec
  simp only[e1,e2]
  exact tail
def Ij(P:Program)(rs:List ResultVar)(H0:aa)(res:jQ)(H':aa)(g:FuncId)(dargs:List AV):aP:=fun e s H=>
 match e with
 | .normal| .ret=>∃H1,mP P g dargs H .returning H1 .returning∧bp P rs H0 res H' .ret s H1
 | .panic v=>∃H1,mP P g dargs H (BA v) H1 (FI v)∧bp P rs H0 res H' .ret s H1
 |_=>False
theorem J8{P:Program}{fn:Func}{rs:List ResultVar}(hr:fn.results.toList=rs){H:aa}{φ:aN}{N:Addr→Prop}{w:World}(hR:Rel H φ N w){res:jQ}{H':aa}{n:Nat}{ds:DS}{s':Nat→AV}{H1:aa}{φ1:aN}{N1:Addr→Prop}{a':Act}{w':World}
  (hI1:Inv H φ N w n ds s' H1 φ1 N1 a' w') (h:bp P rs H res H' .ret s' H1):∃v,(results fn a'.tmps).run P w'= .ok v w'∧∃φ' N',Rel H' φ' N' w'∧au H φ N w H' φ' N' w'∧qp H' φ' N' w' res (.returned v):=by
 obtain⟨avs,s'',hav,hW,rfl⟩:=h
 obtain⟨us,hus,hl,hru⟩:=np hI1.rel hI1.tmps hav
 have hI2:Inv H φ N w us.length ⟨true,[]⟩ (fun t=>avs.getD t .top) H1 φ1 N1 {tmps:=us.toArray,defers:=[]} w':=by
  refine⟨hI1.rel,fun t=>?_,hI1.since,by simp,gK.refl⟩
  by_cases ht:t<avs.length
  ·have e1:avs.getD t .top=avs[t]:=by simp[List.getD,ht]
   have e2:(us.toArray:Array Value).getD t undef=us[t]'(by omega):=by
    rw[Array.getD_eq_getD_getElem?];simp[show t<us.length by omega]
   simp only[e1,e2]
   exact hru t ht (by omega)
  ·have e1:avs.getD t .top= .top:=by simp[List.getD,List.getElem?_eq_none (Nat.le_of_not_lt ht)]
   simp only[e1]
   exact .top _
 obtain⟨φ2,N2,hI3⟩:=hW.ok hR hI2
 refine⟨_,n8 (by rw[hr];exact hus),φ2,N2,hI3.rel,hI3.since,?_⟩
 have at_:∀t,RA H' φ2 N2 w' (s'' t) ((us.toArray:Array Value).getD t undef):=hI3.tmps
 show RA H' φ2 N2 w' (iz (List.range avs.length) s'') _
 match us,hl with
 |[],hl=>
  have:avs=[]:=List.eq_nil_of_length_eq_zero hl
  subst this
  exact .bf _ _ rfl fun i h1=>by simp at h1
 |[u],hl=>
  have:avs.length=1:=hl
  rw[this]
  exact at_ 0
 |u::v::l,hl=>
  have e:iz (List.range avs.length) s''= .bf ((List.range avs.length).map s''):=rv _ (by simp[hl]) s''
  rw[e]
  refine .bf _ _ (by simp[hl]) fun i h1 h2=>?_
  have:=at_ i
  rw[Array.getD_eq_getD_getElem?]at this
  simp only[List.size_toArray]at h2
  rw[List.getElem?_toArray,List.getElem?_eq_getElem h2]at this
  simpa using this
theorem ag.l8{P:Program}{hint:Nat→Bool}{f:FuncId}{fn:Func}{pre rest:Code}{id:Nat}{o:Oper}{c:Call}{f0:Operand}(hf:P.funcs[f]?=some fn)(hn:(fn.name== "runtime.NumGoroutine")=false)(hb:fn.body=some (.seq pre (.seq (.region id #[o] false) rest)))
  (rs:List ResultVar) (hr:fn.results.toList=rs) (ho:o.op= .defer c) (hc:c.callee= .value f0) (hg:o.guard=none) (hd:o.dst=none)
  {args:List AV} {H:aa} {res:jQ} {H':aa} (ha:args.length≤fn.ntmps)
  (h:cO P hint fn.ntmps H pre (fun e s H1=>match e with
   | .normal=>ob (J9 (ae s f0)) fun g=>cO P hint fn.ntmps H1 rest (Ij P rs H res H' g.1 (c.args.toList.map (ae s)++g.2)) s H1
   |_=>False) (iY args) H) (hmk:hint 2000000=false:=by rfl):ag P f args H res H':=by
 intro φ N w vals hR hA
 refine .inl ⟨gq hf hn (by rw[hb];rfl) vals w,calls_of_wp_defers hf hb ?_⟩
 have hI:Inv H φ N w fn.ntmps ⟨false,[]⟩ (iY args) H φ N {tmps:=vals++Array.replicate (fn.ntmps-vals.size) undef,defers:=[]} w:=
  ⟨hR,hA.init _,au.refl,by simp;have:=hA.1;omega,gK.refl⟩
 refine wp_seq (wp_mono (xa (fun e=>by rw[hmk]at e;cases e) hR pre _ hI h) ?_)
 rintro e a1 w1 ⟨ax,s1,H1,φ1,N1,rfl,hq,hI1⟩
 cases ax with
 |normal=>
  cases hfv:J9 (ae s1 f0)with
  |none=>simp only[hfv]at hq;exact hq.elim
  |some gc=>
  obtain⟨g,caps⟩:=gc
  simp only[hfv]at hq
  have hf0:ae s1 f0= .fn g caps:=by
   revert hfv
   cases ae s1 f0<;>intro h<;>cases h
   rfl
  have hfv':=aq hI1.tmps f0
  rw[hf0]at hfv'
  generalize hfe:a1.eval f0=fv at hfv'
  cases hfv' with
  |fn _ _ vs hl hh=>
  have hargs:qz H1 φ1 N1 w1 (c.args.toList.map (ae s1)++caps) (c.args.map a1.eval++vs):=by
   refine⟨by simp[hl],fun i h1 h2=>?_⟩
   by_cases hi:i<c.args.size
   ·rw[List.getElem_append_left (by simpa using hi),Array.getElem_append_left (by simpa using hi)]
    simp only[List.getElem_map,Array.getElem_map,Array.getElem_toList]
    exact aq hI1.tmps _
   ·rw[List.getElem_append_right (by simpa using hi),Array.getElem_append_right (by simpa using hi)]
    simp only[List.length_map,Array.length_toList,Array.size_map]
    exact hh _ (by simp at h1;omega) (by simp at h2;omega)
  let d:Deferred:={target:= .fn (.func g) vs,args:=c.args.map a1.eval}
  have hrun:(execOp a1.eval o).run P w1= .ok (.defer d) w1:=by
   simp[execOp,ho,resolve,hc,hfe,Deferred.ofValue,d]
  have hI1':Inv H1 φ1 N1 w1 fn.ntmps ⟨false,[d]⟩ s1 H1 φ1 N1 {a1 with defers:=[d]} w1:=⟨hI1.rel,hI1.tmps,au.refl,hI1.size,gK.refl⟩
  refine wp_seq (wp_region ?_)
  have hwpR:=xa (fun e=>by rw[hmk]at e;cases e) hI1.rel rest _ hI1' hq
  have hw:Region.wanted o (yielded #[o] a1.tmps)=true:=by simp[Region.wanted,hg]
  show wpOps P #[o] _ [0] a1 w1
  simp only[wpOps,List.getElem?_toArray,List.getElem?_cons_zero,hw,if_true]
  refine .inl ?_
  unfold Oper.wp
  rw[hrun,Oper.upon_defer,hd,hI1.defers.eq]
  show(Code.wp P rest _ {a1 with defers:=[d]} w1)
  refine wp_mono hwpR ?_
  rintro e a2 w2 ⟨ax,s2,H2,φ2,N2,rfl,hq2,hI2⟩
  have hargs2:=hargs.since hI1.rel hI2.since
  have run:∀u u' H3,u≠ .run→settle u'= .returning→mP P g (c.args.toList.map (ae s1)++caps) H2 u H3 u'→bp P rs H res H' .ret s2 H3→
    Leaves P fn a2.tmps (fun e w'=>∃φ' N',Rel H' φ' N' w'∧au H φ N w H' φ' N' w'∧qp H' φ' N' w' res e) a2.defers u w2:=by
   intro u u' H3 hu hs hD hE
   obtain⟨hcall,hC⟩:=hD φ2 N2 w2 _ hI2.rel hargs2
   rw[hI2.defers.eq]
   refine leaves_cons hu (by simpa[invoke]using hcall) (CallsD.mono hC ?_)
   rintro e u1 w3 ⟨⟨v,rfl⟩,rfl,φ3,N3,hR3,hS3⟩
   simp only[hs]
   exact J8 hr hR (ds:=⟨false,[d]⟩) (a':=a2) (n:=fn.ntmps) ⟨hR3,fun t=>(hI2.tmps t).since hI2.rel hS3,hI1.since.trans (hI2.since.trans hS3),hI2.size,by rw[hI2.defers.eq];exact gK.refl⟩ hE
  cases ax with
  |normal=>
   obtain⟨H3,hD,hE⟩:=hq2
   exact run .returning .returning H3 (by simp) rfl hD hE
  |ret=>
   obtain⟨H3,hD,hE⟩:=hq2
   exact run .returning .returning H3 (by simp) rfl hD hE
  |exit i=>exact hq2.elim
  |panic v=>
   obtain⟨H3,hD,hE⟩:=hq2
   exact run (BA v) (FI v) H3 (by simp[BA]) rfl hD hE
 |exit i=>exact hq.elim
 |ret=>exact hq.elim
 |panic v=>exact hq.elim
end Go.Proofs.YtmbagpfmfiegkaaGreatAw
namespace Go.Proofs.YtmbagpfmfiegkaaGreat
open Go.Proofs.YtmbagpfmfiegkaaGreatAw Go.RowKit
abbrev eV(e:Int):Value:= .iface 31 (.int .i64 e)
def gb(b:List Nat):aA:= .box 78 1 0 1 [.d (.list false (aG b))]
theorem xV(H:aa)(id:Nat)(ho:H[id]?=some (gb [])):ag Tryz.prog 69 [.ptr id 0 0 0] H (.panic (eV 3)) H:=by
 refine ag.aj (hint:=(fun _=>false)) Tryz.func69 (by kernel_rfl) rfl [2] (by kernel_rfl) (by decide) (by simp[Tryz.ntmps69]) ?_
 rw[Tryz.ntmps69]
 simp -implicitDefEqProofs only[↓reduceIte,go_sem,ah,Nat.reduceLT,reduceCtorEq,eq_self,ho,gb,sr]
 exact⟨_,.refl _ _,rfl⟩
theorem Ay(H:aa)(id:Nat)(c:Nat)(b:List Nat)(hl:b.length<1000000000000000)(ho:H[id]?=some (gb (c::b))):ag Tryz.prog 69 [.ptr id 0 0 0] H (.ok (.d (.v (.int .u8 c)))) (H.set id (gb b)):=by
 refine ag.aj (hint:=(fun _=>false)) Tryz.func69 (by kernel_rfl) rfl [2] (by kernel_rfl) (by decide) (by simp[Tryz.ntmps69]) ?_
 rw[Tryz.ntmps69]
 have hne:((b.length:Int)+1=0)=False:=eq_false (by omega)
 have hid:id<H.length:=(List.getElem?_eq_some_iff.1 ho).1
 have hget:(aG (c::b))[0]?=some [.v (.int .u8 c)]:=rfl
 simp -implicitDefEqProofs only[↓reduceIte,go_sem,ah,Nat.reduceLT,Int.reduceLE,reduceCtorEq,eq_self,ho,gb,al,hne,hget,Int.toNat_zero,Nat.zero_mul]
 refine fu 14 K.mixed (by kernel_rfl) (by kernel_rfl) ?_
 simp -implicitDefEqProofs only[↓reduceIte,go_sem,ah,ak,Nat.reduceLT,Nat.reduceEqDiff,Int.reduceLE,Int.reduceToNat,reduceCtorEq,eq_self,ho,gb,al,aS]
 have hd:List.drop 1 (List.take (b.length+1:Int).toNat (aG (c::b)))=aG b:=by
  rw[List.take_of_length_le (by rw[al,List.length_cons];omega)];rfl
 rw[hd]
 refine⟨by omega,by omega,by omega,_,ar.refl _ _,?_⟩
 simp -implicitDefEqProofs only[↓reduceIte,go_sem,Nat.reduceLT,eq_self]
def dh:Nat→Nat→List Nat→Except Int Nat×List Nat
 |0,_,b=>(.error 4,b)
 |_+1,_,[]=>(.error 3,[])
 |k+1,acc,c::b=>
  if(k=0∧1<c)∨(k<9∧c=0)then(.error 4,b)
  else if c<128 then(.ok (acc+c%128* 128^(9-k)),b)
  else dh k (acc+c%128* 128^(9-k)) b
theorem A0:∀m:Nat,m<256→IntKind.u64.wrap (IntKind.u8.wrap (mO .u8 (m:Int) 128))=((m%128:Nat):Int):=by decide+kernel
theorem GP(m j:Nat)(hj:j≤63)(hm:m* 2^j<18446744073709551616):IntKind.u64.wrap (nq .u64 (m:Int) (j:Int))=((m* 2^j:Nat):Int):=by
 have h1:min j 64=j:=by omega
 have h3:nq .u64 (m:Int) (j:Int)=((m* 2^j:Nat):Int):=by
  simp only[nq,IntKind.bits,Int.toNat_natCast,h1]
  push_cast
  rfl
 rw[h3]
 exact aU _ hm
theorem KF(a m j:Nat)(ha:a<2^j)(hm:a+m* 2^j<18446744073709551616):IntKind.u64.wrap (Gb .u64 (a:Int) ((m* 2^j:Nat):Int))=((a+m* 2^j:Nat):Int):=by
 rw[mB .u64 a (m* 2^j) (by simp only[IntKind.bits];omega) (by simp only[IntKind.bits];omega)]
 have h4:a|||m* 2^j=a+m* 2^j:=by
  rw[Nat.or_comm,Nat.mul_comm,←Nat.two_pow_add_eq_or_of_lt ha]
  omega
 rw[h4]
 exact aU _ hm
theorem C4(i:Nat):128^i=2^(7* i):=by rw[Nat.pow_mul]
theorem nR(H:aa)(id:Nat)(b:List Nat)(hl:b.length<1000000000000000)(hb:∀c∈b,c<256)(ho:H[id]?=some (gb b)):
  ag Tryz.prog 37 [.ptr id 0 0 0] H (match(dh 10 0 b).1 with| .ok n=> .ok (uA n)| .error e=> .panic (eV e)) (H.set id (gb (dh 10 0 b).2)):=by
 have hid:id<H.length:=(List.getElem?_eq_some_iff.1 ho).1
 have hself:H=H.set id (gb b):=by
  apply List.ext_getElem?
  intro j
  by_cases hj:j=id
  ·subst hj;rw[ho,List.getElem?_set_self hid]
  ·rw[List.getElem?_set_ne (Ne.symm hj)]
 refine ag.aj (hint:=(fun _=>false)) Tryz.func37 (by kernel_rfl) rfl [2] (by kernel_rfl) (by decide) (by simp[Tryz.ntmps37]) ?_
 rw[Tryz.ntmps37]
 simp -implicitDefEqProofs only[go_sem]
 refine cC _ _ _ _ (fun(x:Nat×Nat×List Nat) s H'=>x.1≤10∧x.2.1<128^(10-x.1)∧x.2.2.length<1000000000000000∧(∀c∈x.2.2,c<256)∧H'=H.set id (gb x.2.2)∧dh 10 0 b=dh x.1 x.2.1 x.2.2∧s 0= .ptr id 0 0 0∧s 3=uA x.2.1∧s 4=iA ((10-x.1:Nat):Int)) (fun x=>x.1) (10,0,b) (ar.refl _ _) ?_ ?_
 ·refine⟨Nat.le_refl _,Nat.zero_lt_one,hl,hb,hself,rfl,?_⟩
  simp -implicitDefEqProofs only[↓reduceIte,go_sem,Nat.reduceSub,Nat.reduceLT,Nat.reduceEqDiff,reduceCtorEq,eq_self]
 ·rintro⟨k,acc,r⟩ s H' ⟨h1,h2,h3,h4,rfl,h5,t0,t3,t4⟩
  simp only at h1 h2 h3 h4 h5 t0 t3 t4
  rw[h5]
  have hget:(H.set id (gb r))[id]?=some (gb r):=List.getElem?_set_self hid
  cases k with
  |zero=>
   simp -implicitDefEqProofs only[↓reduceIte,go_sem,Nat.reduceSub,Nat.reduceLT,eq_self,t4]
   exact⟨_,.refl _ _,rfl⟩
  |succ k=>
   obtain⟨i,hi⟩:∃i,i=9-k:=⟨_,rfl⟩
   have hi2:10-(k+1)=i:=by omega
   rw[hi2]at t4 h2
   have hne:((i:Int)=10)=False:=eq_false (by omega)
   simp -implicitDefEqProofs only[↓reduceIte,go_sem,Nat.reduceLT,reduceCtorEq,eq_self,t0,t4,hne]
   cases r with
   |nil=>
    refine ab.panic (xV _ id hget) ?_
    simp -implicitDefEqProofs only[go_sem]
    exact⟨_,.refl _ _,rfl⟩
   |cons c r=>
    refine ab.ok (Ay _ id c r (by simp at h3;omega) hget) ?_
    have hc:c<256:=h4 c (by simp)
    by_cases hbad:(k=0∧1<c)∨(k<9∧c=0)
    ·rw[show dh (k+1) acc (c::r)=(.error 4,r) by simp[dh,hbad]]
     have fin:∀s,aw [2] H (jQ.panic (eV 4)) (List.set H id (gb r)) (AX.panic (Value.iface 31 (Value.int IntKind.i64 4))) s (List.set H id (gb r)):=fun s=>⟨_,.refl _ _,rfl⟩
     by_cases h9:k=0
     ·have e1:((i:Int)=9)=True:=eq_true (by omega)
      by_cases hc1:1<c
      ·have e2:(1<(c:Int))=True:=eq_true (by omega)
       simp -implicitDefEqProofs only[↓reduceIte,go_sem,Nat.reduceLT,Nat.reduceEqDiff,eq_self,List.set_set,t4,e1,e2]
       exact fin _
      ·have e2:(1<(c:Int))=False:=eq_false (by omega)
       have e3:(0<(i:Int))=True:=eq_true (by omega)
       have e4:((c:Int)=0)=True:=eq_true (by omega)
       simp -implicitDefEqProofs only[↓reduceIte,go_sem,Nat.reduceLT,Nat.reduceEqDiff,reduceCtorEq,eq_self,List.set_set,t4,e1,e2,e3,e4]
       exact fin _
     ·have e1:((i:Int)=9)=False:=eq_false (by omega)
      have e3:(0<(i:Int))=True:=eq_true (by omega)
      have e4:((c:Int)=0)=True:=eq_true (by omega)
      simp -implicitDefEqProofs only[↓reduceIte,go_sem,Nat.reduceLT,Nat.reduceEqDiff,reduceCtorEq,eq_self,List.set_set,t4,e1,e3,e4]
      exact fin _
    ·have hstep:dh (k+1) acc (c::r)=if c<128 then(.ok (acc+c%128* 128^i),r)else dh k (acc+c%128* 128^i) r:=by
      rw[hi];simp only[dh,if_neg hbad]
     rw[hstep]
     have hpart:=A0 c hc
     obtain⟨j,hj⟩:∃j,j=7* i:=⟨_,rfl⟩
     have hp2:=C4 i
     rw[←hj]at hp2
     have hm:c%128* 2^j+2^j≤18446744073709551616:=by
      by_cases h9:k=0
      ·have:j=63:=by omega
       subst this
       have:c≤1:=by omega
       have:c%128≤1:=by omega
       omega
      ·have h56:2^j≤2^56:=Nat.pow_le_pow_right (by decide) (by omega)
       have:c%128<128:=Nat.mod_lt _ (by decide)
       have:c%128* 2^j≤127* 2^j:=Nat.mul_le_mul_right _ (by omega)
       omega
     rw[hp2]at h2
     rw[hp2]
     have e5:IntKind.i64.wrap (7* (i:Int))=(j:Int):=by rw[wrap64_in _ (by omega) (by omega)];omega
     have e6:IntKind.u64.wrap (j:Int)=(j:Int):=aU _ (by omega)
     have e7:=GP (c%128) j (by omega) (by omega)
     have e8:=KF acc (c%128) j h2 (by omega)
     have hA:acc+c%128* 2^j<2^j* 128:=by
      have:c%128<128:=Nat.mod_lt _ (by decide)
      have:c%128* 2^j≤127* 2^j:=Nat.mul_le_mul_right _ (by omega)
      omega
     generalize c%128=m at*
     generalize m* 2^j=P at*
     generalize acc+P=A at*
     have hw2:IntKind.i64.wrap ((i:Int)+1)=((10-k:Nat):Int):=by rw[wrap64_in _ (by omega) (by omega)];omega
     have fin:∀s,s 2=uA A→aw [2] H (jQ.ok (uA A)) (List.set H id (gb r)) AX.ret s (List.set H id (gb r)):=fun s hs=>⟨_,.refl _ _,by simp only[iz,hs]⟩
     have nxt:∀s,s 0= .ptr id 0 0 0→s 3=uA A→s 4=iA ((10-k:Nat):Int)→∃s'' H'',∃y:Nat×Nat×List Nat,ar H s (List.set H id (gb r)) s'' H''∧(y.1≤10∧y.2.1<128^(10-y.1)∧y.2.2.length<1000000000000000∧(∀c∈y.2.2,c<256)∧H''=H.set id (gb y.2.2)∧dh k A r=dh y.1 y.2.1 y.2.2∧s'' 0= .ptr id 0 0 0∧s'' 3=uA y.2.1∧s'' 4=iA ((10-y.1:Nat):Int))∧y.1<k+1:=by
      intro s g0 g3 g4
      refine⟨s,_,(k,A,r),.refl _ _,⟨by simp only;omega,?_,by simp at h3;simp only;omega,fun c hc=>h4 c (by simp[hc]),rfl,rfl,g0,g3,g4⟩,Nat.lt_succ_self _⟩
      show A<128^(10-k)
      rw[show 10-k=i+1 by omega,Nat.pow_succ,C4,←hj]
      exact hA
     by_cases hlt:c<128
     ·rw[if_pos hlt]
      have hlt':((c:Int)<128)=True:=eq_true (by omega)
      by_cases h9:k=0
      ·have e1:((i:Int)=9)=True:=eq_true (by omega)
       have e2:(1<(c:Int))=False:=eq_false (by omega)
       have e3:(0<(i:Int))=True:=eq_true (by omega)
       have e4:((c:Int)=0)=False:=eq_false (by omega)
       simp -implicitDefEqProofs only[↓reduceIte,go_sem,Nat.reduceLT,Nat.reduceEqDiff,reduceCtorEq,eq_self,List.set_set,t3,t4,e1,e2,e3,e4,hpart,e5,e6,e7,e8,hlt']
       exact fin _ (by simp -implicitDefEqProofs only[↓reduceIte,go_sem,Nat.reduceLT,eq_self])
      ·have e1:((i:Int)=9)=False:=eq_false (by omega)
       by_cases h0:i=0
       ·have e3:(0<(i:Int))=False:=eq_false (by omega)
        simp -implicitDefEqProofs only[↓reduceIte,go_sem,Nat.reduceLT,Nat.reduceEqDiff,reduceCtorEq,eq_self,List.set_set,t3,t4,e1,e3,hpart,e5,e6,e7,e8,hlt']
        exact fin _ (by simp -implicitDefEqProofs only[↓reduceIte,go_sem,Nat.reduceLT,eq_self])
       ·have e3:(0<(i:Int))=True:=eq_true (by omega)
        have e4:((c:Int)=0)=False:=eq_false (by omega)
        simp -implicitDefEqProofs only[↓reduceIte,go_sem,Nat.reduceLT,Nat.reduceEqDiff,reduceCtorEq,eq_self,List.set_set,t3,t4,e1,e3,e4,hpart,e5,e6,e7,e8,hlt']
        exact fin _ (by simp -implicitDefEqProofs only[↓reduceIte,go_sem,Nat.reduceLT,eq_self])
     ·rw[if_neg hlt]
      have hlt':((c:Int)<128)=False:=eq_false (by omega)
      by_cases h9:k=0
      ·have e1:((i:Int)=9)=True:=eq_true (by omega)
       have e2:(1<(c:Int))=False:=eq_false (by omega)
       have e3:(0<(i:Int))=True:=eq_true (by omega)
       have e4:((c:Int)=0)=False:=eq_false (by omega)
       simp -implicitDefEqProofs only[↓reduceIte,go_sem,Nat.reduceLT,Nat.reduceEqDiff,reduceCtorEq,eq_self,List.set_set,t3,t4,e1,e2,e3,e4,hpart,e5,e6,e7,e8,hlt',hw2]
       exact nxt _ (by simp -implicitDefEqProofs only[↓reduceIte,go_sem,reduceCtorEq,eq_self,t0]) (by simp -implicitDefEqProofs only[↓reduceIte,go_sem,Nat.reduceLT,Nat.reduceEqDiff,eq_self]) (by simp -implicitDefEqProofs only[↓reduceIte,go_sem,Nat.reduceLT,eq_self])
      ·have e1:((i:Int)=9)=False:=eq_false (by omega)
       by_cases h0:i=0
       ·have e3:(0<(i:Int))=False:=eq_false (by omega)
        simp -implicitDefEqProofs only[↓reduceIte,go_sem,Nat.reduceLT,Nat.reduceEqDiff,reduceCtorEq,eq_self,List.set_set,t3,t4,e1,e3,hpart,e5,e6,e7,e8,hlt',hw2]
        exact nxt _ (by simp -implicitDefEqProofs only[↓reduceIte,go_sem,reduceCtorEq,eq_self,t0]) (by simp -implicitDefEqProofs only[↓reduceIte,go_sem,Nat.reduceLT,Nat.reduceEqDiff,eq_self]) (by simp -implicitDefEqProofs only[↓reduceIte,go_sem,Nat.reduceLT,eq_self])
       ·have e3:(0<(i:Int))=True:=eq_true (by omega)
        have e4:((c:Int)=0)=False:=eq_false (by omega)
        simp -implicitDefEqProofs only[↓reduceIte,go_sem,Nat.reduceLT,Nat.reduceEqDiff,reduceCtorEq,eq_self,List.set_set,t3,t4,e1,e3,e4,hpart,e5,e6,e7,e8,hlt',hw2]
        exact nxt _ (by simp -implicitDefEqProofs only[↓reduceIte,go_sem,reduceCtorEq,eq_self,t0]) (by simp -implicitDefEqProofs only[↓reduceIte,go_sem,Nat.reduceLT,Nat.reduceEqDiff,eq_self]) (by simp -implicitDefEqProofs only[↓reduceIte,go_sem,Nat.reduceLT,eq_self])
theorem r7(H:aa)(a:AV):mP Tryz.prog 36 [a] H .returning H .returning:=by
 refine mP.aj (hint:=fun _=>false) Tryz.func36 (by kernel_rfl) rfl ⟨_,rfl⟩ rfl rfl rfl rfl rfl (by rw[Tryz.ntmps36];decide) rfl (by simp[Tryz.ntmps36]) .ret ?_
 rw[Tryz.ntmps36]
 simp -implicitDefEqProofs only[↓reduceIte,go_sem,Nat.reduceLT,eq_self]
 exact⟨_,.refl _ _⟩
theorem kJ(H:aa)(id:Nat)(x:AV)(e:Int)(ho:H[id]?=some (.box 31 1 0 1 [x])):mP Tryz.prog 36 [.ptr id 0 0 0] H (BA (eV e)) (H.set id (.box 31 1 0 1 [iA e])) (FI (eV e)):=by
 refine mP.aj (hint:=fun _=>false) Tryz.func36 (by kernel_rfl) rfl ⟨_,rfl⟩ rfl rfl rfl rfl rfl (by rw[Tryz.ntmps36];decide) rfl (by simp[Tryz.ntmps36]) (.KE _) ?_
 rw[Tryz.ntmps36]
 simp -implicitDefEqProofs only[↓reduceIte,go_sem,ak,Nat.reduceLT,Nat.reduceEqDiff,reduceCtorEq,eq_self,ho]
 exact⟨_,.refl _ _⟩
theorem u6:∀(k acc:Nat) (b:List Nat),(dh k acc b).2.length≤b.length
 |0,_,b=>Nat.le_refl _
 |_+1,_,[]=>Nat.le_refl _
 |k+1,acc,c::b=>by
  simp only[dh]
  split
  ·simp
  ·split
   ·simp
   ·exact Nat.le_trans (u6 k _ b) (by simp)
def aJ(b:List Nat):Nat×Nat×Int:=match dh 10 0 b with
 |(.ok n,r)=>(n,b.length-r.length,0)
 |(.error e,_)=>(0,0,e)
theorem kd(b:List Nat)(hl:b.length<1000000000000000)(hb:∀c∈b,c<256)(H:aa):ag Tryz.prog 16 [.d (.list false (aG b))] H (.ok (.bf [uA (aJ b).1,iA (aJ b).2.1,iA (aJ b).2.2])) H:=by
 refine ag.l8 (hint:=fun _=>false) Tryz.func16 (by kernel_rfl) rfl [.tmp 2,.tmp 3,.cell 4 31] (by kernel_rfl) rfl rfl rfl rfl (by simp[Tryz.ntmps16]) ?_
 rw[Tryz.ntmps16]
 simp -implicitDefEqProofs only[↓reduceIte,go_sem,ak,Nat.reduceLT,Nat.reduceEqDiff,reduceCtorEq,eq_self]
 have hd:=nR (H++[.box 31 1 0 1 [iA 0],gb b]) (H.length+1) b hl hb (by simp)
 have hset:∀x y z:aA,(H++[x,y]).set (H.length+1) z=H++[x,z]:=fun x y z=>by simp[]
 have hset0:∀x y z:aA,(H++[x,y]).set H.length z=H++[z,y]:=fun x y z=>by simp[]
 rw[hset]at hd
 have hg:aJ b=match dh 10 0 b with
  |(.ok n,r)=>(n,b.length-r.length,0)
  |(.error e,_)=>(0,0,e):=rfl
 rcases hn:dh 10 0 b with⟨_|n,r⟩
 ·rename_i e
  rw[hn]at hd hg
  rw[hg]
  refine ab.panic hd ?_
  simp -implicitDefEqProofs only[↓reduceIte,go_sem,Nat.reduceLT,eq_self]
  refine⟨_,kJ _ _ (iA 0) e (by simp),?_⟩
  rw[hset0]
  refine bp.ret ?_
  simp -implicitDefEqProofs only[↓reduceIte,go_sem,ah,Nat.reduceAdd,Nat.reduceLT,Nat.reduceEqDiff,reduceCtorEq,eq_self,aK,bH]
 ·rw[hn]at hd hg
  rw[hg]
  refine ab.ok hd ?_
  simp -implicitDefEqProofs only[↓reduceIte,go_sem,Nat.reduceLT,eq_self,gb]
  refine fu 7 K.mixed (by kernel_rfl) (by kernel_rfl) ?_
  have hw:IntKind.i64.wrap ((b.length:Int)-(r.length:Int))=((b.length-r.length:Nat):Int):=by
   have:=u6 10 0 b
   rw[hn]at this
   simp only at this
   rw[wrap64_in _ (by omega) (by omega)];omega
  simp -implicitDefEqProofs only[↓reduceIte,go_sem,ah,ak,Nat.reduceLT,Nat.reduceEqDiff,reduceCtorEq,eq_self,al,hw]
  refine⟨_,r7 _ _,?_⟩
  refine bp.ret ?_
  simp -implicitDefEqProofs only[↓reduceIte,go_sem,ah,Nat.reduceAdd,Nat.reduceLT,Nat.reduceEqDiff,reduceCtorEq,eq_self,aK,bH]
theorem iW(b:List Nat)(nn:Bool)(hl:b.length<1000000000000000)(hb:∀c∈b,c<256)(H:aa):ag Tryz.prog 16 [.d (.list nn (aG b))] H (.ok (.bf [uA (aJ b).1,iA (aJ b).2.1,iA (aJ b).2.2])) H:=by
 cases nn
 ·exact kd b hl hb H
 ·exact(kd b hl hb H).sub (.cons (.nn _) .nil)
def ew(n:Nat):Int:=if n%2=1 then -((n/2:Nat):Int)-1 else((n/2:Nat):Int)
theorem mJ(k:IntKind)(a b:Nat)(ha:a<2^k.bits)(hb:b<2^k.bits):oG k (a:Int) (b:Int)=((a^^^b:Nat):Int):=by
 simp[oG,BitVec.toNat_xor,BitVec.ofInt_natCast,Nat.mod_eq_of_lt ha,Nat.mod_eq_of_lt hb]
theorem zU(a b:Nat)(ha:a<18446744073709551616)(hb:b<18446744073709551616):oG .i64 (a:Int) (b:Int)=((a^^^b:Nat):Int):=mJ .i64 a b ha hb
theorem GM(n:Nat)(h:n<18446744073709551616):IntKind.i64.wrap (oG .i64 (IntKind.i64.wrap (iF .u64 (n:Int) 1)) (IntKind.i64.wrap (0-IntKind.i64.wrap (IntKind.u64.wrap (so .u64 (n:Int) 1)))))=ew n:=by
 have s1:iF .u64 (n:Int) 1=((n/2:Nat):Int):=wV n 1 (by decide)
 have s2:so .u64 (n:Int) 1=((n%2:Nat):Int):=by
  have:=mK .u64 n 1 (by simp only[IntKind.bits];omega) (by decide)
  rw[Nat.and_one_is_mod]at this
  exact this
 rw[s1,s2,aU _ (by omega),wrap64_in (n/2:Nat) (by omega) (by omega),wrap64_in (n%2:Nat) (by omega) (by omega)]
 unfold ew
 by_cases h1:n%2=1
 ·rw[if_pos h1,h1]
  have e:oG .i64 ((n/2:Nat):Int) (IntKind.i64.wrap (0-((1:Nat):Int)))=oG .i64 ((n/2:Nat):Int) ((18446744073709551615:Nat):Int):=by
   have:BitVec.ofInt 64 (IntKind.i64.wrap (0-((1:Nat):Int)))=BitVec.ofInt 64 ((18446744073709551615:Nat):Int):=by decide
   simp only[oG,IntKind.bits,this]
  rw[e,zU _ _ (by omega) (by omega),Nat.xor_comm,Nat.xor_comm,Dd _ (by omega)]
  simp only[IntKind.wrap,IntKind.signed,IntKind.bits]
  simp only[show((2:Int)^64)=18446744073709551616 from rfl,show((2:Int)^(64-1))=9223372036854775808 from rfl]
  simp
  split<;>omega
 ·rw[if_neg h1,show n%2=0 by omega]
  have e:IntKind.i64.wrap (0-((0:Nat):Int))=((0:Nat):Int):=by decide
  rw[e,zU _ _ (by omega) (by omega),Nat.xor_zero]
  exact wrap64_in _ (by omega) (by omega)
theorem oY(n:Nat)(h:n<18446744073709551616)(H:aa):ag Tryz.prog 72 [uA n] H (.ok (iA (ew n))) H:=by
 refine ag.aj (hint:=(fun _=>false)) Tryz.func72 (by kernel_rfl) rfl [2] (by kernel_rfl) (by decide) (by simp[Tryz.ntmps72]) ?_
 rw[Tryz.ntmps72]
 simp -implicitDefEqProofs only[↓reduceIte,go_sem,Nat.reduceLT,Nat.reduceEqDiff,Int.reduceLE,reduceCtorEq,eq_self]
 refine aw.bq ?_
 simp -implicitDefEqProofs only[↓reduceIte,go_sem,Nat.reduceLT,eq_self,GM n h]
def c9(b:List Nat):List Bool:=b.flatMap fun c=>cN c 8
theorem iM:∀b:List Nat,(c9 b).length=8* b.length
 |[]=>rfl
 |c::b=>by
  have:c9 (c::b)=cN c 8++c9 b:=rfl
  rw[this,List.length_append,iM b,dG,List.length_cons];omega
theorem mV:∀(b:List Nat) (i:Nat) (c:Nat),b[i/8]?=some c→(c9 b)[i]?=some (c.testBit (i%8))
 |[],i,c,h=>by simp at h
 |x::b,i,c,h=>by
  have e:c9 (x::b)=cN x 8++c9 b:=rfl
  rw[e]
  by_cases hi:i<8
  ·rw[show i/8=0 by omega]at h
   cases h
   rw[List.getElem?_append_left (by rw[dG];exact hi),show i%8=i by omega]
   simp[cN,hi]
  ·rw[show i/8=(i-8)/8+1 by omega,List.getElem?_cons_succ]at h
   rw[List.getElem?_append_right (by rw[dG];omega),dG,mV b (i-8) c h]
   congr 2
   omega
theorem wM(L:List Bool)(k:Nat)(c:Bool)(h:L[k]?=some c):byteOf (L.take (k+1))=byteOf (L.take k)+c.toNat* 2^k:=by
 have hk:k<L.length:=(List.getElem?_eq_some_iff.1 h).1
 rw[List.take_add_one,h,Option.toList_some,ko,List.length_take,Nat.min_eq_left (Nat.le_of_lt hk)]
def rH(G:aa)(b:List Nat)(at_:Nat)(T:aa):aa:=G++ .arr 5 1 1 (aG b):: .box 192 2 0 1 [.sl G.length 1 0 b.length,iA at_]::T
theorem B3(b:List Nat)(nn:Bool)(hl:b.length≤140737488351232)(H:aa):ag Tryz.prog 111 [.d (.list nn (aG b))] H (.ok (.ptr (H.length+1) 0 0 0)) (rH H b 0 []):=by
 generalize hE:rH H b 0 []=E
 refine ag.aj (hint:=(fun _=>false)) Tryz.func111 (by kernel_rfl) rfl [2] (by kernel_rfl) (by decide) (by simp[Tryz.ntmps111]) ?_
 rw[Tryz.ntmps111]
 simp -implicitDefEqProofs only[↓reduceIte,go_sem,Nat.reduceAdd,Nat.reduceLT,Nat.reduceLeDiff,Nat.reduceEqDiff,reduceCtorEq,eq_self,aS,al]
 refine⟨by omega,by omega,?_⟩
 rw[←hE]
 refine⟨_,ar.refl _ _,?_⟩
 simp -implicitDefEqProofs only[↓reduceIte,go_sem,Nat.reduceLT,eq_self]
theorem rC(b:List Nat)(at_:Nat)(hl:b.length≤140737488351232)(ha:at_≤8* b.length)(G T:aa):ag Tryz.prog 112 [.ptr (G.length+1) 0 0 0] (rH G b at_ T) (.ok (iA ((8* b.length-at_:Nat):Int))) (rH G b at_ T):=by
 refine ag.aj (hint:=(fun _=>false)) Tryz.func112 (by kernel_rfl) rfl [2] (by kernel_rfl) (by decide) (by simp[Tryz.ntmps112]) ?_
 rw[Tryz.ntmps112]
 simp -implicitDefEqProofs only[↓reduceIte,go_sem,Nat.reduceLT,reduceCtorEq,eq_self,rH]
 refine bP K.mixed (by kernel_rfl) ?_
 have h1:IntKind.i64.wrap (8* (b.length:Int))=8* (b.length:Int):=wrap64_in _ (by omega) (by omega)
 have h2:IntKind.i64.wrap (8* (b.length:Int)-(at_:Int))=((8* b.length-at_:Nat):Int):=by rw[wrap64_in _ (by omega) (by omega)];omega
 generalize 8* b.length-at_=z at*
 simp -implicitDefEqProofs only[↓reduceIte,go_sem,ah,Nat.reduceAdd,Nat.reduceLT,Nat.reduceLeDiff,Nat.reduceEqDiff,reduceCtorEq,eq_self]
 refine⟨_,ar.refl _ _,?_⟩
 simp -implicitDefEqProofs only[↓reduceIte,go_sem,Nat.reduceLT,eq_self,h1,h2]
theorem Jn(x:Nat)(j:Nat)(hx:x<256)(hj:j<8):IntKind.u64.wrap (IntKind.u8.wrap (so .u8 (iF .u8 (x:Int) (j:Int)) 1))=(((x.testBit j).toNat:Nat):Int):=by
 have h1:min j 8=j:=by omega
 have e:iF .u8 (x:Int) (j:Int)=((x/2^j:Nat):Int):=by
  simp only[iF,IntKind.bits,Int.toNat_natCast,h1]
  rw[Int.fdiv_eq_ediv_of_nonneg _ (by exact_mod_cast Nat.zero_le _)]
  norm_cast
 have h2:x/2^j<256:=Nat.lt_of_le_of_lt (Nat.div_le_self _ _) hx
 rw[e]
 have:=mK .u8 (x/2^j) 1 h2 (by decide)
 rw[show((1:Nat):Int)=1 from rfl]at this
 rw[this,Nat.and_one_is_mod,qd _ (by omega),aU _ (by omega),Nat.testBit_eq_decide_div_mod_eq]
 rcases Nat.mod_two_eq_zero_or_one (x/2^j)with h|h<;>rw[h]<;>rfl
theorem rf(b:List Nat)(at_ w:Nat)(hl:b.length≤140737488351232)(hb:∀c∈b,c<256)(ha:at_+w≤8* b.length)(hw:w≤64)(G T:aa):
  ag Tryz.prog 113 [.ptr (G.length+1) 0 0 0,iA w] (rH G b at_ T) (.ok (.bf [du (byteOf (((c9 b).drop at_).take w)),iA 0])) (rH G b (at_+w) T):=by
 generalize hE:rH G b (at_+w) T=E
 refine ag.aj (hint:=(fun _=>false)) Tryz.func113 (by kernel_rfl) rfl [4,5] (by kernel_rfl) (by decide) (by simp[Tryz.ntmps113]) ?_
 rw[Tryz.ntmps113]
 simp -implicitDefEqProofs only[↓reduceIte,go_sem,Nat.reduceLT,Nat.reduceEqDiff,reduceCtorEq,eq_self,rH,show((w:Int)<0)=False from eq_false (by omega),show((64:Int)<(w:Int))=False from eq_false (by omega)]
 refine ab.ok (rC b at_ hl (by omega) G T) ?_
 simp -implicitDefEqProofs only[↓reduceIte,go_sem,Nat.reduceLT,Nat.reduceEqDiff,eq_self,show(((8* b.length-at_:Nat):Int)<(w:Int))=False from eq_false (by omega)]
 refine bl (fun k s H'=>H'=rH G b (at_+k) T∧s 0= .ptr (G.length+1) 0 0 0∧s 6=du (byteOf (((c9 b).drop at_).take k))∧s 24=iA w∧s 25=iA k) w (by omega) (ar.refl _ _) ?_ ?_ ?_
 ·refine⟨rfl,?_⟩
  simp -implicitDefEqProofs only[↓reduceIte,go_sem,Nat.reduceLT,Nat.reduceEqDiff,reduceCtorEq,eq_self,List.take_zero,byteOf]
  rfl
 ·rintro k s H' hk hw2 ⟨rfl,t0,t6,t24,t25⟩
  have hq:(at_+k)/8<b.length:=by omega
  have hm8:(at_+k)%8<8:=Nat.mod_lt _ (by decide)
  have hx:=List.getElem?_eq_getElem hq
  have hbx:=ET b _ hq
  have hx8:=hb _ (List.getElem_mem hq)
  generalize b[(at_+k)/8]=x at hx hbx hx8
  have hbit:=mV b _ x hx
  have ht:=wM ((c9 b).drop at_) k _ (by rw[List.getElem?_drop];exact hbit)
  have hlt:=iR (((c9 b).drop at_).take k)
  have hll:(((c9 b).drop at_).take k).length=k:=by rw[List.length_take,List.length_drop,iM];omega
  rw[hll]at hlt
  have hu:=Jn x _ hx8 hm8
  generalize x.testBit ((at_+k)%8)=c at hu ht
  generalize byteOf (((c9 b).drop at_).take k)=n at hlt ht t6
  have hp63:2^k≤2^63:=Nat.pow_le_pow_right (by decide) (by omega)
  have hcl:c.toNat* 2^k≤2^k:=by cases c<;>simp
  have e7:=GP c.toNat k (by omega) (by omega)
  have e8:=KF n c.toNat k hlt (by omega)
  obtain⟨p,hp⟩:∃p,p=at_+k:=⟨_,rfl⟩
  rw[←hp]at hq hm8 hbx hu
  have hwq:IntKind.i64.wrap ((p/8:Nat):Int)=((p/8:Nat):Int):=wrap64_in _ (by omega) (by omega)
  have hwm:IntKind.u64.wrap ((p%8:Nat):Int)=((p%8:Nat):Int):=aU _ (by omega)
  have hwk:IntKind.u64.wrap ((k:Nat):Int)=((k:Nat):Int):=aU _ (by omega)
  have hw3:IntKind.i64.wrap ((p:Int)+1)=((p+1:Nat):Int):=by rw[wrap64_in _ (by omega) (by omega)];rfl
  simp only[←hp]
  rw[show at_+(k+1)=p+1 by omega,ht]
  generalize c.toNat* 2^k=y at*
  generalize n+y=z at*
  simp -implicitDefEqProofs only[↓reduceIte,go_sem,Nat.reduceLT,Nat.reduceEqDiff,eq_self,rH,t24,t25,hk]
  refine bP K.mixed (by kernel_rfl) ?_
  simp -implicitDefEqProofs only[↓reduceIte,go_sem,ah,ak,Nat.reduceAdd,Nat.reduceLT,Nat.reduceLeDiff,Nat.reduceEqDiff,Int.reduceEq,reduceCtorEq,eq_self,rH,t0,t6,t25,Gz,DA,hwq,hwm,hwk,hbx,hq,hu,e7,e8]
  refine eQ.same ⟨?_,?_⟩
  ·simp -implicitDefEqProofs only[go_sem,eq_self,hw3]
  ·simp -implicitDefEqProofs only[↓reduceIte,go_sem,Nat.reduceLT,Nat.reduceEqDiff,reduceCtorEq,eq_self,t0,t24,hw2]
 ·rintro s H' ⟨rfl,t0,t6,t24,t25⟩
  simp -implicitDefEqProofs only[↓reduceIte,go_sem,Nat.reduceLT,Nat.reduceEqDiff,eq_self,t6,t24,t25]
  rw[hE]
  exact⟨_,ar.refl _ _,by simp -implicitDefEqProofs only[↓reduceIte,go_sem,Nat.reduceLT,Nat.reduceEqDiff,eq_self]⟩
def vZ(b:List Nat)(w k:Nat):Nat:=byteOf (((c9 b).drop (k* w)).take w)
def bu(b:List Nat)(n w:Nat):List Nat:=(List.range n).map (vZ b w)
theorem cW(b:List Nat)(n w:Nat):(bu b n w).length=n:=by simp[bu]
theorem l7(b:List Nat)(n w:Nat):bu b (n+1) w=bu b n w++[vZ b w n]:=by simp[bu,List.range_succ]
def bG(b:List Nat)(n w:Nat):Int:=if 8* b.length<n* w then 3 else if n* w+8≤8* b.length then 4 else if byteOf ((c9 b).drop (n* w))=0 then 0 else 4
def gY(b:List Nat)(n w:Nat):AV:=if bG b n w=0 then .d (.list false (us (bu b n w)))else .d (.v (.slice none 0 0))
theorem jY(b:List Nat)(n w:Nat)(nn:Bool)(hl:b.length≤140737488351232)(hb:∀c∈b,c<256)(hn:n≤1048576)(hw:w≤64)(H:aa):
  ag Tryz.prog 71 [.d (.list nn (aG b)),iA n,iA w] H (.ok (.bf [gY b n w,iA (bG b n w)])) H:=by
 have hnw:n* w≤1048576* 64:=Nat.mul_le_mul hn hw
 have c1:((n:Int)<0)=False:=eq_false (by omega)
 have c2:((1048576:Int)<(n:Int))=False:=eq_false (by omega)
 have c3:((w:Int)<0)=False:=eq_false (by omega)
 have c4:((64:Int)<(w:Int))=False:=eq_false (by omega)
 refine ag.aj (hint:=(fun _=>false)) Tryz.func71 (by kernel_rfl) rfl [6,7] (by kernel_rfl) (by decide) (by simp[Tryz.ntmps71]) ?_
 rw[Tryz.ntmps71]
 simp -implicitDefEqProofs only[↓reduceIte,go_sem,Nat.reduceLT,Nat.reduceEqDiff,reduceCtorEq,eq_self,c1,c2,c3,c4]
 refine ab.ok (B3 b nn hl H) ?_
 simp -implicitDefEqProofs only[↓reduceIte,go_sem,Nat.reduceLT,eq_self]
 refine ab.ok (rC b 0 hl (by omega) H []) ?_
 have e1:IntKind.i64.wrap ((n:Int)* (w:Int))=((n* w:Nat):Int):=by rw[←Int.natCast_mul];exact wrap64_in _ (by omega) (by omega)
 obtain⟨r,hr⟩:∃r:Int,r=((8* b.length:Nat):Int)-((n* w:Nat):Int):=⟨_,rfl⟩
 have e2:IntKind.i64.wrap (((8* b.length-0:Nat):Int)-((n* w:Nat):Int))=r:=by rw[Nat.sub_zero,hr];exact wrap64_in _ (by omega) (by omega)
 generalize hN:n* w=N at*
 generalize hM:8* b.length-0=M at*
 simp -implicitDefEqProofs only[↓reduceIte,go_sem,Nat.reduceLT,Nat.reduceEqDiff,eq_self,e1,e2]
 by_cases h1:r<0
 ·have hE:bG b n w=3:=by unfold bG;rw[hN,if_pos (by omega)]
  simp -implicitDefEqProofs only[go_sem,h1]
  unfold rH
  refine aw.ret ?_
  simp -implicitDefEqProofs only[↓reduceIte,go_sem,Nat.reduceLT,Nat.reduceEqDiff,eq_self]
  simp[gY,hE]
 by_cases h2:8≤r
 ·have hE:bG b n w=4:=by unfold bG;rw[hN,if_neg (by omega),if_pos (by omega)]
  simp -implicitDefEqProofs only[↓reduceIte,go_sem,Nat.reduceLT,Nat.reduceEqDiff,eq_self,h1,h2]
  unfold rH
  refine aw.ret ?_
  simp -implicitDefEqProofs only[↓reduceIte,go_sem,Nat.reduceLT,Nat.reduceEqDiff,eq_self]
  simp[gY,hE]
 simp -implicitDefEqProofs only[↓reduceIte,go_sem,Nat.reduceLT,Nat.reduceEqDiff,eq_self,h1,h2]
 refine bl (fun k s H'=>H'=rH H b (k* w) [.arr 49 1 k (us (bu b k w))]∧s 2=iA w∧s 8= .ptr (H.length+1) 0 0 0∧s 9=iA r∧s 10= .sl (H.length+2) k 0 k∧s 43=iA n∧s 44=iA k) n (by omega) (ar.eU _ _ 10 49 1 (by decide) (by simp -implicitDefEqProofs only[↓reduceIte,go_sem,Nat.reduceLT,Nat.reduceEqDiff,eq_self]) _) ?_ ?_ ?_
 ·refine⟨?_,?_⟩
  ·simp -implicitDefEqProofs only[go_sem,rH,Nat.zero_mul]
   rfl
  ·simp -implicitDefEqProofs only[↓reduceIte,go_sem,Nat.reduceLT,Nat.reduceEqDiff,eq_self,show(rH H b 0 []).length=H.length+2 from by simp[rH]]
 ·rintro k s H' hk hw2 ⟨rfl,t2,t8,t9,t10,t43,t44⟩
  simp -implicitDefEqProofs only[↓reduceIte,go_sem,Nat.reduceLT,Nat.reduceEqDiff,eq_self,t2,t8,t43,t44,hk]
  have hkw:k* w+w≤n* w:=by rw[←Nat.succ_mul];exact Nat.mul_le_mul_right _ hk
  have hL:=cW b k w
  have hs:bu b (k+1) w=bu b k w++[byteOf (((c9 b).drop (k* w)).take w)]:=l7 b k w
  have hkw2:(k+1)* w=k* w+w:=Nat.succ_mul k w
  refine ab.ok (rf b (k* w) w hl hb (by omega) hw H _) ?_
  rw[hs,hkw2]
  generalize byteOf (((c9 b).drop (k* w)).take w)=x
  generalize bu b k w=L at*
  generalize k* w=at_ at*
  simp -implicitDefEqProofs only[↓reduceIte,go_sem,Nat.reduceAdd,Nat.reduceLT,Nat.reduceLeDiff,Nat.reduceEqDiff,eq_self,t10,t44,rH,fT,hL,tI,List.length_singleton]
  refine⟨by omega,by omega,eQ.same ⟨?_,?_⟩⟩
  ·simp -implicitDefEqProofs only[go_sem,eq_self]
  ·simp -implicitDefEqProofs only[↓reduceIte,go_sem,Nat.reduceLT,Nat.reduceEqDiff,eq_self,t2,t8,t9,t43,hw2]
 ·rintro s H' ⟨rfl,t2,t8,t9,t10,t43,t44⟩
  simp -implicitDefEqProofs only[↓reduceIte,go_sem,Nat.reduceLT,Nat.reduceEqDiff,eq_self,t8,t9,t43,t44]
  have hr3:r=((8* b.length-N:Nat):Int):=by omega
  rw[hN,hr3]
  refine ab.ok (rf b N (8* b.length-N) hl hb (by omega) (by omega) H _) ?_
  have htk:((c9 b).drop N).take (8* b.length-N)=(c9 b).drop N:=List.take_of_length_le (by rw[List.length_drop,iM];exact Nat.le_refl _)
  rw[htk]
  by_cases h0:byteOf ((c9 b).drop N)=0
  ·have hE:bG b n w=0:=by unfold bG;rw[hN,if_neg (by omega),if_neg (by omega),if_pos h0]
   rw[h0]
   simp -implicitDefEqProofs only[↓reduceIte,go_sem,Nat.reduceLT,Nat.reduceEqDiff,eq_self,t10]
   unfold rH
   refine aw.ret ?_
   simp -implicitDefEqProofs only[↓reduceIte,go_sem,Nat.reduceLT,Nat.reduceEqDiff,eq_self]
   rw[show(us (bu b n w)).take n=us (bu b n w)from dD _ _ (by rw[fT,cW])]
   simp[gY,hE]
  ·have hE:bG b n w=4:=by unfold bG;rw[hN,if_neg (by omega),if_neg (by omega),if_neg h0]
   have h0':(((byteOf ((c9 b).drop N):Nat):Int)=0)=False:=eq_false (by omega)
   simp -implicitDefEqProofs only[↓reduceIte,go_sem,Nat.reduceLT,Nat.reduceEqDiff,eq_self,h0']
   unfold rH
   refine aw.ret ?_
   simp -implicitDefEqProofs only[↓reduceIte,go_sem,Nat.reduceLT,Nat.reduceEqDiff,eq_self]
   simp[gY,hE]
theorem jw(b:List Nat):(aJ b).2.1≤b.length:=by
 unfold aJ
 split<;>simp
theorem sQ:∀(k acc:Nat) (b:List Nat) (n:Nat),acc<128^(10-k)→k≤10→(dh k acc b).1= .ok n→n<18446744073709551616
 |0,_,_,_,_,_,h=>by simp[dh]at h
 |_+1,_,[],_,_,_,h=>by simp[dh]at h
 |k+1,acc,c::b,n,ha,hk,h=>by
  have hm:c%128<128:=Nat.mod_lt _ (by decide)
  have hi:10-(k+1)=9-k:=by omega
  rw[hi]at ha
  have hA:acc+c%128* 128^(9-k)<128^(9-k)* 128:=by
   have:c%128* 128^(9-k)≤127* 128^(9-k):=Nat.mul_le_mul_right _ (by omega)
   omega
  simp only[dh]at h
  split at h
  ·cases h
  ·rename_i hbad
   split at h
   ·cases h
    by_cases h0:k=0
    ·subst h0
     have hc:c%128≤1:=by omega
     have h2:c%128* 128^9≤1* 128^9:=Nat.mul_le_mul_right _ hc
     simp only[Nat.sub_zero]at ha⊢
     omega
    ·have h9:128^(9-k)≤128^8:=Nat.pow_le_pow_right (by decide) (by omega)
     omega
   ·by_cases h0:k=0
    ·subst h0;simp[dh]at h
    ·refine sQ k _ b n ?_ (by omega) h
     rw[show 10-k=(9-k)+1 by omega,Nat.pow_succ]
     exact hA
theorem jE(b:List Nat):(aJ b).1<18446744073709551616:=by
 unfold aJ
 split
 ·rename_i n r h
  exact sQ 10 0 b n (by decide) (Nat.le_refl _) (by rw[h])
 ·exact(by decide:(0:Nat)<18446744073709551616)
theorem jJ(b:List Nat)(n w:Nat)(hw:w≤64):∀x∈bu b n w,x<18446744073709551616:=by
 intro x hx
 obtain⟨k,_,rfl⟩:=List.mem_map.1 hx
 have h1:=iR (((c9 b).drop (k* w)).take w)
 have h2:2^(((c9 b).drop (k* w)).take w).length≤2^64:=Nat.pow_le_pow_right (by decide) (by simp;omega)
 unfold vZ
 omega
def cH(b:List Nat)(most:Nat):List Nat×List Nat×Int:=match dh 10 0 b with
 |(.ok n,r)=>if most<n then([],[],2)else if r.length<n then([],[],3)else(r.take n,r.drop n,0)
 |(.error e,_)=>([],[],e)
theorem j4:∀(k acc:Nat) (b:List Nat),∃j,(dh k acc b).2=b.drop j
 |0,_,b=>⟨0,rfl⟩
 |_+1,_,[]=>⟨0,rfl⟩
 |k+1,acc,c::b=>by
  unfold dh
  split
  ·exact⟨1,rfl⟩
  ·split
   ·exact⟨1,rfl⟩
   ·obtain⟨j,h⟩:=j4 k (acc+c%128* 128^(9-k)) b
    exact⟨j+1,h⟩
theorem ux(b:List Nat)(most:Nat)(hmo:most≤1000000)(hl:b.length≤140737488351232)(hb:∀c∈b,c<256)(H:aa):
  ag Tryz.prog 74 [.d (.list false (aG b)),iA most] H (.ok (.bf [sA (nD (cH b most).1),.d (.list false (aG (cH b most).2.1)),iA (cH b most).2.2])) H:=by
 have hd:=nR (H++[.box 31 1 0 1 [iA 0],gb b]) (H.length+1) b (by omega) hb (by simp)
 have hset:∀x y z:aA,(H++[x,y]).set (H.length+1) z=H++[x,z]:=fun x y z=>by simp[]
 have hset0:∀x y z:aA,(H++[x,y]).set H.length z=H++[z,y]:=fun x y z=>by simp[]
 rw[hset]at hd
 have hg:cH b most=match dh 10 0 b with
  |(.ok n,r)=>if most<n then([],[],2)else if r.length<n then([],[],3)else(r.take n,r.drop n,0)
  |(.error e,_)=>([],[],e):=rfl
 have hnl:∀n,(dh 10 0 b).1= .ok n→n<18446744073709551616:=fun n h=>sQ 10 0 b n (by decide) (Nat.le_refl _) h
 obtain⟨j,hsuf⟩:=j4 10 0 b
 rcases hn:dh 10 0 b with⟨_|n,r⟩
 ·rename_i e
  rw[hn]at hd hg
  rw[hg]
  refine ag.bY (cs:=[sA ⟨#[]⟩,.d (.v (.slice none 0 0)),iA e]) ?_ (.cons (.refl _) (.cons .nil (.cons (.refl _) .nil)))
  refine ag.l8 (hint:=fun _=>false) Tryz.func74 (by kernel_rfl) rfl [.tmp 4,.tmp 5,.cell 6 31] (by kernel_rfl) rfl rfl rfl rfl (by simp[Tryz.ntmps74]) ?_
  rw[Tryz.ntmps74]
  simp -implicitDefEqProofs only[↓reduceIte,go_sem,ak,Nat.reduceLT,Nat.reduceEqDiff,reduceCtorEq,eq_self]
  refine ab.panic hd ?_
  simp -implicitDefEqProofs only[↓reduceIte,go_sem,Nat.reduceLT,eq_self]
  refine⟨_,kJ _ _ (iA 0) e (by simp),?_⟩
  rw[hset0]
  refine bp.ret ?_
  simp -implicitDefEqProofs only[↓reduceIte,go_sem,ah,Nat.reduceAdd,Nat.reduceLT,Nat.reduceEqDiff,reduceCtorEq,eq_self,aK,bH]
 ·rw[hn]at hd hg hsuf
  have hnn:=hnl n (by rw[hn])
  simp only at hsuf
  have hrl:r.length≤140737488351232:=by rw[hsuf,List.length_drop];omega
  have wm:IntKind.u64.wrap (most:Int)=(most:Int):=aU _ (by omega)
  have wr:IntKind.u64.wrap (r.length:Int)=(r.length:Int):=aU _ (by omega)
  have c0:((most:Int)<0)=False:=eq_false (by omega)
  have hr:cH b most=if most<n then([],[],2)else if r.length<n then([],[],3)else(r.take n,r.drop n,0):=hg
  rw[hr]
  by_cases h1:most<n
  ·rw[if_pos h1]
   refine ag.bY (cs:=[sA ⟨#[]⟩,.d (.v (.slice none 0 0)),iA 2]) ?_ (.cons (.refl _) (.cons .nil (.cons (.refl _) .nil)))
   refine ag.l8 (hint:=fun _=>false) Tryz.func74 (by kernel_rfl) rfl [.tmp 4,.tmp 5,.cell 6 31] (by kernel_rfl) rfl rfl rfl rfl (by simp[Tryz.ntmps74]) ?_
   rw[Tryz.ntmps74]
   simp -implicitDefEqProofs only[↓reduceIte,go_sem,ak,Nat.reduceLT,Nat.reduceEqDiff,reduceCtorEq,eq_self]
   refine ab.ok hd ?_
   simp -implicitDefEqProofs only[↓reduceIte,go_sem,Nat.reduceLT,Nat.reduceEqDiff,reduceCtorEq,eq_self,gb,c0,wm,show((most:Int)<(n:Int))=True from eq_true (by omega)]
   refine⟨_,kJ _ _ (iA 0) 2 (by simp),?_⟩
   rw[hset0]
   refine bp.ret ?_
   simp -implicitDefEqProofs only[↓reduceIte,go_sem,ah,Nat.reduceAdd,Nat.reduceLT,Nat.reduceEqDiff,reduceCtorEq,eq_self,aK,bH]
  rw[if_neg h1]
  by_cases h2:r.length<n
  ·rw[if_pos h2]
   refine ag.bY (cs:=[sA ⟨#[]⟩,.d (.v (.slice none 0 0)),iA 3]) ?_ (.cons (.refl _) (.cons .nil (.cons (.refl _) .nil)))
   refine ag.l8 (hint:=fun _=>false) Tryz.func74 (by kernel_rfl) rfl [.tmp 4,.tmp 5,.cell 6 31] (by kernel_rfl) rfl rfl rfl rfl (by simp[Tryz.ntmps74]) ?_
   rw[Tryz.ntmps74]
   simp -implicitDefEqProofs only[↓reduceIte,go_sem,ak,Nat.reduceLT,Nat.reduceEqDiff,reduceCtorEq,eq_self]
   refine ab.ok hd ?_
   simp -implicitDefEqProofs only[↓reduceIte,go_sem,ah,Nat.reduceLT,Nat.reduceEqDiff,reduceCtorEq,eq_self,gb,c0,wm,wr,al,show((most:Int)<(n:Int))=False from eq_false (by omega),show((r.length:Int)<(n:Int))=True from eq_true (by omega)]
   refine⟨_,kJ _ _ (iA 0) 3 (by simp),?_⟩
   rw[hset0]
   refine bp.ret ?_
   simp -implicitDefEqProofs only[↓reduceIte,go_sem,ah,Nat.reduceAdd,Nat.reduceLT,Nat.reduceEqDiff,reduceCtorEq,eq_self,aK,bH]
  rw[if_neg h2]
  have wn:IntKind.i64.wrap (n:Int)=(n:Int):=wrap64_in _ (by omega) (by omega)
  have hnr:n≤r.length:=by omega
  have hrt:(aG r).take n=aG (r.take n):=vu r n
  have hrt2:(aG r).take r.length=aG r:=List.take_of_length_le (by rw[al];exact Nat.le_refl _)
  have hdl:(r.drop n).length=r.length-n:=List.length_drop
  refine ag.l8 (hint:=fun _=>false) Tryz.func74 (by kernel_rfl) rfl [.tmp 4,.tmp 5,.cell 6 31] (by kernel_rfl) rfl rfl rfl rfl (by simp[Tryz.ntmps74]) ?_
  rw[Tryz.ntmps74]
  simp -implicitDefEqProofs only[↓reduceIte,go_sem,ak,Nat.reduceLT,Nat.reduceEqDiff,reduceCtorEq,eq_self]
  refine ab.ok hd ?_
  simp -implicitDefEqProofs only[↓reduceIte,go_sem,ah,Nat.reduceLT,Nat.reduceEqDiff,reduceCtorEq,eq_self,gb,c0,wm,wr,al,show((most:Int)<(n:Int))=False from eq_false (by omega),show((r.length:Int)<(n:Int))=False from eq_false (by omega)]
  refine Ag [false,false,false,false,false,false,false,false,true] K.mixed (by kernel_rfl) (by kernel_rfl) (by kernel_rfl) ?_
  simp -implicitDefEqProofs only[↓reduceIte,go_sem,ah,ak,Nat.reduceAdd,Nat.reduceLT,Nat.reduceEqDiff,Int.reduceLE,Int.reduceToNat,eq_self,al,aS,hnr,hrt,dZ,dV,hrt2]
  have hext:∀x y z:aA,Ext (H++[x,y]) (H++[x,y,z]):=fun x y z=>by have:=Ext.app (H++[x,y]) [z];rwa[List.append_assoc]at this
  refine⟨by omega,by omega,hext _ _ _,?_⟩
  refine⟨_,r7 _ _,?_⟩
  refine bp.ret ?_
  simp -implicitDefEqProofs only[↓reduceIte,go_sem,ah,Nat.reduceAdd,Nat.reduceLT,Nat.reduceEqDiff,reduceCtorEq,eq_self,aK,bH,mi,List.take_of_length_le (Nat.le_of_eq (al (r.drop n)))]
def dO(k:Nat):Nat:=if 9223372036854775808≤k then db (k-9223372036854775808)else db (18446744073709551615-k)
theorem BV(k:Nat)(hk:k<18446744073709551616)(h:9223372036854775808≤k):IntKind.u64.wrap (mO .u64 (k:Int) 9223372036854775808)=((k-9223372036854775808:Nat):Int):=by
 have h2:(~~~BitVec.ofInt 64 9223372036854775808)=BitVec.ofNat 64 (2^63-1):=by decide
 have h3:mO .u64 (k:Int) 9223372036854775808=((k-9223372036854775808:Nat):Int):=by
  unfold mO
  show(((BitVec.ofInt 64 (k:Int)&&& ~~~BitVec.ofInt 64 9223372036854775808).toNat:Nat):Int)=_
  rw[h2,BitVec.toNat_and,BitVec.ofInt_natCast,BitVec.toNat_ofNat,BitVec.toNat_ofNat,Nat.mod_eq_of_lt hk,Nat.mod_eq_of_lt (by decide),Nat.and_two_pow_sub_one_eq_mod]
  omega
 rw[h3]
 exact aU _ (by omega)
theorem pA(k:Nat)(hk:k<18446744073709551616)(H:aa):ag Tryz.prog 114 [du k] H (.ok (du (dO k))) H:=by
 unfold dO
 refine ag.aj (hint:=(fun _=>false)) Tryz.func114 (by kernel_rfl) rfl [2] (by kernel_rfl) (by decide) (by simp[Tryz.ntmps114]) ?_
 rw[Tryz.ntmps114]
 by_cases h:9223372036854775808≤k
 ·rw[if_pos h]
  simp -implicitDefEqProofs only[↓reduceIte,go_sem,Nat.reduceLT,reduceCtorEq,eq_self,show((9223372036854775808:Int)≤(k:Int))=True from eq_true (by omega),BV k hk h]
  refine ab.ok (ic _ (by omega) _) ?_
  simp -implicitDefEqProofs only[↓reduceIte,go_sem,Nat.reduceLT,eq_self]
  refine aw.bq ?_
  simp -implicitDefEqProofs only[↓reduceIte,go_sem,Nat.reduceLT,eq_self]
 ·rw[if_neg h]
  simp -implicitDefEqProofs only[↓reduceIte,go_sem,Nat.reduceLT,reduceCtorEq,eq_self,show((9223372036854775808:Int)≤(k:Int))=False from eq_false (by omega),Im k hk]
  refine ab.ok (ic _ (by omega) _) ?_
  simp -implicitDefEqProofs only[↓reduceIte,go_sem,Nat.reduceLT,eq_self]
  refine aw.bq ?_
  simp -implicitDefEqProofs only[↓reduceIte,go_sem,Nat.reduceLT,eq_self]
theorem rK{k:Nat}(hk:k<18446744073709551616):dO k<18446744073709551616:=by
 unfold dO
 split<;>exact kQ _ (by omega)
def kv(l:List Nat):Nat:=l.foldl (fun a c=>a* 256+c) 0
theorem jf(l:List Nat)(c:Nat):kv (l++[c])=kv l* 256+c:=by simp[kv]
theorem sy:∀(k:Nat) (l:List Nat),l.length=k→(∀c∈l,c<256)→kv l<256^k:=by
 intro k
 induction k with
 |zero=>intro l h _;rw[List.length_eq_zero_iff.1 h];exact Nat.one_pos
 |succ k ih=>
  intro l h hc
  have hne:l≠[]:=fun e=>by rw[e]at h;simp at h
  rw[←List.dropLast_concat_getLast hne,jf,Nat.pow_succ]
  have h1:=ih l.dropLast (by simp[h]) fun c hm=>hc c (List.dropLast_subset l hm)
  have h2:=hc _ (List.getLast_mem hne)
  omega
theorem F9(m c:Nat)(hc:c<256)(hm:m* 256+c<18446744073709551616):IntKind.u64.wrap (Gb .u64 (IntKind.u64.wrap (nq .u64 (m:Int) 8)) (c:Int))=((m* 256+c:Nat):Int):=by
 have e8:(2:Nat)^8=256:=rfl
 have hm2:m* 256<18446744073709551616:=Nat.lt_of_le_of_lt (Nat.le_add_right _ c) hm
 have hc2:c<18446744073709551616:=Nat.lt_of_le_of_lt (Nat.le_add_left c _) hm
 have h1:=GP m 8 (by decide) hm2
 have p64:(2:Nat)^IntKind.u64.bits=18446744073709551616:=by decide
 have h4:m* 256|||c=m* 256+c:=by
  have:=Nat.two_pow_add_eq_or_of_lt (i:=8) (b:=c) (by rw[e8];exact hc) m
  rw[e8,Nat.mul_comm]at this
  exact this.symm
 rw[e8]at h1
 rw[show((8:Nat):Int)=8 from rfl]at h1
 rw[h1,mB .u64 (m* 256) c (Nat.lt_of_lt_of_eq hm2 p64.symm) (Nat.lt_of_lt_of_eq hc2 p64.symm),h4]
 exact aU _ hm
def zV:ai:=⟨0,0,dA⟩
def CD(n:Nat):Int:=IntKind.i64.wrap (n:Int)
def iw(b:List Nat):ai×List Nat×Int:=
 if b.length<8 then(zV,[],3)
 else if eo (dO (kv (b.take 8)))=kv (b.take 8)then(⟨2,CD (dO (kv (b.take 8))),dA⟩,b.drop 8,0)
 else(zV,[],4)
theorem yE(b:List Nat)(hl:b.length≤140737488351232)(hb:∀c∈b,c<256)(H:aa):
  ag Tryz.prog 73 [.d (.list false (aG b))] H (.ok (.bf [(iw b).1.av,.d (.list false (aG (iw b).2.1)),iA (iw b).2.2])) H:=by
 have hF:iw b=if b.length<8 then(zV,[],3)else if eo (dO (kv (b.take 8)))=kv (b.take 8)then(⟨2,CD (dO (kv (b.take 8))),dA⟩,b.drop 8,0)else(zV,[],4):=rfl
 by_cases h8:b.length<8
 ·rw[hF,if_pos h8]
  refine ag.bY (cs:=[zV.av,.d (.v (.slice none 0 0)),iA 3]) ?_ (.cons (.refl _) (.cons .nil (.cons (.refl _) .nil)))
  refine ag.bL (hint:=fun _=>false) Tryz.func73 (by kernel_rfl) rfl [.cell 2 25,.tmp 3,.tmp 4] (by kernel_rfl) (by simp[Tryz.ntmps73]) ?_
  rw[Tryz.ntmps73]
  simp -implicitDefEqProofs only[↓reduceIte,go_sem,ak,Nat.reduceAdd,Nat.reduceLT,Nat.reduceEqDiff,reduceCtorEq,eq_self,al,show((b.length:Int)<8)=True from eq_true (by omega)]
  refine bp.ret ?_
  simp -implicitDefEqProofs only[↓reduceIte,go_sem,ah,Nat.reduceAdd,Nat.reduceLT,Nat.reduceLeDiff,Nat.reduceEqDiff,eq_self,aK,bH,zV,dA]
 rw[if_neg h8]at hF
 have h8l:(b.take 8).length=8:=by rw[List.length_take];omega
 have hkl:=sy 8 (b.take 8) h8l fun c hc=>hb c (List.mem_of_mem_take hc)
 have hkl':kv (b.take 8)<18446744073709551616:=hkl
 have hub:=rK hkl'
 have hfold:∀k,k<8→∃c,(b.take 8)[k]?=some c∧c<256∧kv ((b.take 8).take (k+1))=kv ((b.take 8).take k)* 256+c∧kv ((b.take 8).take k)* 256+c<18446744073709551616:=fun k hk=>by
  have hk':k<(b.take 8).length:=by omega
  refine⟨(b.take 8)[k],List.getElem?_eq_getElem hk',hb _ (List.mem_of_mem_take (List.getElem_mem hk')),?_,?_⟩
  ·rw[List.take_succ_eq_append_getElem hk',jf]
  ·rw[←jf,←List.take_succ_eq_append_getElem hk']
   have:=sy (k+1) ((b.take 8).take (k+1)) (by rw[List.length_take];omega) fun c hc=>hb c (List.mem_of_mem_take (List.mem_of_mem_take hc))
   have h2:256^(k+1)≤256^8:=Nat.pow_le_pow_right (by decide) (by omega)
   omega
 have ht8:(b.take 8).take 8=b.take 8:=List.take_of_length_le (by omega)
 have e8:(aG b).take 8=aG (b.take 8):=vu b 8
 have hg:∀(k c:Nat),(b.take 8)[k]?=some c→(aG (b.take 8))[k]?=some [D.v (.int .u8 (c:Int))]:=fun k c h=>by unfold aG;rw[List.getElem?_map,h];rfl
 have hbt:=al (b.take 8)
 rw[h8l]at hbt
 have hd8:(aG b).drop 8=aG (b.drop 8):=dV b 8
 have hdl:(b.drop 8).length=b.length-8:=List.length_drop
 have hbtl:(aG b).take b.length=aG b:=List.take_of_length_le (by rw[al];exact Nat.le_refl _)
 rw[hF]
 generalize b.take 8=B at*
 by_cases hk:eo (dO (kv B))=kv B
 ·rw[if_pos hk]
  refine ag.bL (hint:=fun _=>false) Tryz.func73 (by kernel_rfl) rfl [.cell 2 25,.tmp 3,.tmp 4] (by kernel_rfl) (by simp[Tryz.ntmps73]) ?_
  rw[Tryz.ntmps73]
  simp -implicitDefEqProofs only[↓reduceIte,go_sem,Nat.reduceLT,Int.reduceLE,Int.reduceToNat,reduceCtorEq,eq_self,al,show((b.length:Int)<8)=False from eq_false (by omega),aS,e8,hbt,show((8:Int)≤(b.length:Int))=True from eq_true (by omega)]
  refine bl (fun k s H'=>H'=H++[.box 25 3 0 1 [iA 0,iA 0,sA ⟨#[]⟩]]∧s 0= .d (.list false (aG b))∧s 2= .ptr H.length 0 0 0∧s 5=du (kv (B.take k))∧s 14= .d (.list false (aG B))∧s 15=iA 8∧s 16=iA k) 8 (by omega) (ar.refl _ _) ?_ ?_ ?_
  ·refine⟨rfl,?_⟩
   simp -implicitDefEqProofs only[↓reduceIte,go_sem,Nat.reduceLT,Nat.reduceEqDiff,reduceCtorEq,eq_self]
   rfl
  ·rintro k s H' hk8 hw ⟨rfl,t0,t2,t5,t14,t15,t16⟩
   have hk8':((k:Int)<8)=True:=eq_true (by omega)
   obtain⟨c,g1,g2,g3,g4⟩:=hfold k hk8
   have hx:=hg k c g1
   have hso:=F9 (kv (B.take k)) c g2 g4
   have wc:IntKind.u64.wrap (c:Int)=(c:Int):=aU _ (by omega)
   rw[g3]
   generalize kv (B.take k)=m at*
   generalize m* 256+c=z at*
   simp -implicitDefEqProofs only[↓reduceIte,go_sem,Nat.reduceLT,Nat.reduceEqDiff,Int.reduceLE,eq_self,t5,t14,t15,t16,hk8',hx,wc,hso]
   refine eQ.same ⟨rfl,?_⟩
   simp -implicitDefEqProofs only[↓reduceIte,go_sem,Nat.reduceLT,Nat.reduceEqDiff,reduceCtorEq,eq_self,t0,t2,t14,t15,hw]
  ·rintro s H' ⟨rfl,t0,t2,t5,t14,t15,t16⟩
   rw[ht8]at t5
   simp -implicitDefEqProofs only[↓reduceIte,go_sem,Nat.reduceLT,Nat.reduceEqDiff,Int.reduceLT,eq_self,t5,t15,t16]
   refine ab.ok (pA _ hkl' _) ?_
   simp -implicitDefEqProofs only[↓reduceIte,go_sem,Nat.reduceLT,eq_self]
   refine ab.ok (iQ _ hub _) ?_
   simp -implicitDefEqProofs only[↓reduceIte,go_sem,ak,Nat.reduceAdd,Nat.reduceLT,Nat.reduceLeDiff,Nat.reduceEqDiff,Int.reduceLE,Int.reduceToNat,reduceCtorEq,eq_self,t0,t2,t5,eq_true (congrArg (fun n:Nat=>(n:Int)) hk),al,aS,hbtl,hd8,show((8:Int)≤(b.length:Int))=True from eq_true (by omega)]
   refine⟨by omega,by omega,?_⟩
   refine bp.ret ?_
   simp -implicitDefEqProofs only[↓reduceIte,go_sem,ah,Nat.reduceAdd,Nat.reduceLT,Nat.reduceLeDiff,Nat.reduceEqDiff,eq_self,aK,bH,t2,CD,dA,List.take_of_length_le (Nat.le_of_eq (al (b.drop 8)))]
 ·rw[if_neg hk]
  refine ag.bY (cs:=[zV.av,.d (.v (.slice none 0 0)),iA 4]) ?_ (.cons (.refl _) (.cons .nil (.cons (.refl _) .nil)))
  refine ag.bL (hint:=fun _=>false) Tryz.func73 (by kernel_rfl) rfl [.cell 2 25,.tmp 3,.tmp 4] (by kernel_rfl) (by simp[Tryz.ntmps73]) ?_
  rw[Tryz.ntmps73]
  simp -implicitDefEqProofs only[↓reduceIte,go_sem,Nat.reduceLT,Int.reduceLE,Int.reduceToNat,reduceCtorEq,eq_self,al,show((b.length:Int)<8)=False from eq_false (by omega),aS,e8,hbt,show((8:Int)≤(b.length:Int))=True from eq_true (by omega)]
  refine bl (fun k s H'=>H'=H++[.box 25 3 0 1 [iA 0,iA 0,sA ⟨#[]⟩]]∧s 0= .d (.list false (aG b))∧s 2= .ptr H.length 0 0 0∧s 5=du (kv (B.take k))∧s 14= .d (.list false (aG B))∧s 15=iA 8∧s 16=iA k) 8 (by omega) (ar.refl _ _) ?_ ?_ ?_
  ·refine⟨rfl,?_⟩
   simp -implicitDefEqProofs only[↓reduceIte,go_sem,Nat.reduceLT,Nat.reduceEqDiff,reduceCtorEq,eq_self]
   rfl
  ·rintro k s H' hk8 hw ⟨rfl,t0,t2,t5,t14,t15,t16⟩
   have hk8':((k:Int)<8)=True:=eq_true (by omega)
   obtain⟨c,g1,g2,g3,g4⟩:=hfold k hk8
   have hx:=hg k c g1
   have hso:=F9 (kv (B.take k)) c g2 g4
   have wc:IntKind.u64.wrap (c:Int)=(c:Int):=aU _ (by omega)
   rw[g3]
   generalize kv (B.take k)=m at*
   generalize m* 256+c=z at*
   simp -implicitDefEqProofs only[↓reduceIte,go_sem,Nat.reduceLT,Nat.reduceEqDiff,Int.reduceLE,eq_self,t5,t14,t15,t16,hk8',hx,wc,hso]
   refine eQ.same ⟨rfl,?_⟩
   simp -implicitDefEqProofs only[↓reduceIte,go_sem,Nat.reduceLT,Nat.reduceEqDiff,reduceCtorEq,eq_self,t0,t2,t14,t15,hw]
  ·rintro s H' ⟨rfl,t0,t2,t5,t14,t15,t16⟩
   rw[ht8]at t5
   simp -implicitDefEqProofs only[↓reduceIte,go_sem,Nat.reduceLT,Nat.reduceEqDiff,Int.reduceLT,eq_self,t5,t15,t16]
   refine ab.ok (pA _ hkl' _) ?_
   simp -implicitDefEqProofs only[↓reduceIte,go_sem,Nat.reduceLT,eq_self]
   refine ab.ok (iQ _ hub _) ?_
   simp -implicitDefEqProofs only[↓reduceIte,go_sem,ak,Nat.reduceAdd,Nat.reduceLT,Nat.reduceEqDiff,eq_self,t2,t5,show(((eo (dO (kv B)):Nat):Int)=((kv B:Nat):Int))=False from eq_false (by omega)]
   refine bp.ret ?_
   simp -implicitDefEqProofs only[↓reduceIte,go_sem,ah,Nat.reduceAdd,Nat.reduceLT,Nat.reduceLeDiff,Nat.reduceEqDiff,eq_self,aK,bH,t2,zV,dA]
def dz(b:List Nat)(k:Int):ai×List Nat×Int:=
 if k=0 then(zV,b,0)
 else if k=1 then(if(aJ b).2.2=0 then(ca (ew (aJ b).1),b.drop (aJ b).2.1,0)else(zV,[],(aJ b).2.2))
 else if k=2 then iw b
 else if k=3 then(if(cH b 1024).2.2=0 then(⟨3,0,nD (cH b 1024).1⟩,(cH b 1024).2.1,0)else(zV,[],(cH b 1024).2.2))
 else(zV,[],1)
theorem eE(b:List Nat)(k:Int)(hl:b.length≤140737488351232)(hb:∀c∈b,c<256)(H:aa):
  ag Tryz.prog 45 [.d (.list false (aG b)),iA k] H (.ok (.bf [(dz b k).1.av,.d (.list false (aG (dz b k).2.1)),iA (dz b k).2.2])) H:=by
 have hO:dz b k=if k=0 then(zV,b,0)else if k=1 then(if(aJ b).2.2=0 then(ca (ew (aJ b).1),b.drop (aJ b).2.1,0)else(zV,[],(aJ b).2.2))else if k=2 then iw b else if k=3 then(if(cH b 1024).2.2=0 then(⟨3,0,nD (cH b 1024).1⟩,(cH b 1024).2.1,0)else(zV,[],(cH b 1024).2.2))else(zV,[],1):=rfl
 by_cases h0:k=0
 ·rw[hO,if_pos h0]
  subst h0
  refine ag.bL (hint:=fun _=>false) Tryz.func45 (by kernel_rfl) rfl [.cell 4 25,.tmp 5,.tmp 6] (by kernel_rfl) (by simp[Tryz.ntmps45]) ?_
  rw[Tryz.ntmps45]
  simp -implicitDefEqProofs only[↓reduceIte,go_sem,ak,Nat.reduceAdd,Nat.reduceLT,Nat.reduceEqDiff,reduceCtorEq,eq_self,aS,al]
  refine⟨by omega,by omega,bp.ret ?_⟩
  simp -implicitDefEqProofs only[↓reduceIte,go_sem,ah,Nat.reduceAdd,Nat.reduceLT,Nat.reduceLeDiff,Nat.reduceEqDiff,eq_self,aK,bH,zV,dA,List.take_of_length_le (Nat.le_of_eq (al b))]
 rw[if_neg h0]at hO
 by_cases h1:k=1
 ·rw[if_pos h1]at hO
  subst h1
  have hgl:=jw b
  have hglt:=jE b
  have hgd:=fun H=>kd b (by omega) hb H
  generalize aJ b=g at*
  obtain⟨n,j,e⟩:=g
  simp only at hgl hglt hO hgd
  by_cases he:e=0
  ·rw[if_pos he]at hO
   rw[hO]
   subst he
   refine ag.bL (hint:=fun _=>false) Tryz.func45 (by kernel_rfl) rfl [.cell 4 25,.tmp 5,.tmp 6] (by kernel_rfl) (by simp[Tryz.ntmps45]) ?_
   rw[Tryz.ntmps45]
   have hbt:(aG b).take b.length=aG b:=List.take_of_length_le (by rw[al];exact Nat.le_refl _)
   have hdl:(b.drop j).length=b.length-j:=List.length_drop
   simp -implicitDefEqProofs only[↓reduceIte,go_sem,Nat.reduceLT,Nat.reduceEqDiff,Int.reduceEq,reduceCtorEq,eq_self]
   refine ab.ok (hgd _) ?_
   simp -implicitDefEqProofs only[↓reduceIte,go_sem,Nat.reduceLT,Nat.reduceEqDiff,eq_self]
   refine jg [false,false,false,false,false,false,false,true] 7 K.mixed (by kernel_rfl) (by kernel_rfl) (by kernel_rfl) ?_
   simp -implicitDefEqProofs only[↓reduceIte,go_sem,Nat.reduceLT,Nat.reduceEqDiff,eq_self]
   refine ab.ok (oY n hglt _) ?_
   simp -implicitDefEqProofs only[↓reduceIte,go_sem,ak,Nat.reduceAdd,Nat.reduceLT,Nat.reduceLeDiff,Nat.reduceEqDiff,reduceCtorEq,eq_self,aS,al,hbt,dV,hgl,show((0:Int)≤(j:Int))=True from eq_true (by omega)]
   refine⟨by omega,by omega,bp.ret ?_⟩
   simp -implicitDefEqProofs only[↓reduceIte,go_sem,ah,Nat.reduceAdd,Nat.reduceLT,Nat.reduceLeDiff,Nat.reduceEqDiff,eq_self,aK,bH,ca,dA,List.take_of_length_le (Nat.le_of_eq (al (b.drop j)))]
  ·rw[if_neg he]at hO
   rw[hO]
   refine ag.bY (cs:=[zV.av,.d (.v (.slice none 0 0)),iA e]) ?_ (.cons (.refl _) (.cons .nil (.cons (.refl _) .nil)))
   refine ag.bL (hint:=fun _=>false) Tryz.func45 (by kernel_rfl) rfl [.cell 4 25,.tmp 5,.tmp 6] (by kernel_rfl) (by simp[Tryz.ntmps45]) ?_
   rw[Tryz.ntmps45]
   simp -implicitDefEqProofs only[↓reduceIte,go_sem,Nat.reduceLT,Nat.reduceEqDiff,Int.reduceEq,reduceCtorEq,eq_self]
   refine ab.ok (hgd _) ?_
   simp -implicitDefEqProofs only[↓reduceIte,go_sem,ak,Nat.reduceAdd,Nat.reduceLT,Nat.reduceEqDiff,eq_self,he]
   refine bp.ret ?_
   simp -implicitDefEqProofs only[↓reduceIte,go_sem,ah,Nat.reduceAdd,Nat.reduceLT,Nat.reduceLeDiff,Nat.reduceEqDiff,eq_self,aK,bH,zV,dA]
 rw[if_neg h1]at hO
 by_cases h2:k=2
 ·rw[if_pos h2]at hO
  subst h2
  rw[hO]
  have hf:=fun H=>yE b hl hb H
  generalize iw b=t at*
  obtain⟨v,r,e⟩:=t
  refine ag.bL (hint:=fun _=>false) Tryz.func45 (by kernel_rfl) rfl [.cell 4 25,.tmp 5,.tmp 6] (by kernel_rfl) (by simp[Tryz.ntmps45]) ?_
  rw[Tryz.ntmps45]
  simp -implicitDefEqProofs only[↓reduceIte,go_sem,Nat.reduceLT,Nat.reduceEqDiff,Int.reduceEq,reduceCtorEq,eq_self]
  refine ab.ok (hf _) ?_
  simp -implicitDefEqProofs only[↓reduceIte,go_sem,ak,Nat.reduceAdd,Nat.reduceLT,Nat.reduceEqDiff,eq_self]
  refine bp.ret ?_
  simp -implicitDefEqProofs only[↓reduceIte,go_sem,ah,Nat.reduceAdd,Nat.reduceLT,Nat.reduceLeDiff,Nat.reduceEqDiff,eq_self,aK,bH]
 rw[if_neg h2]at hO
 by_cases h3:k=3
 ·rw[if_pos h3]at hO
  subst h3
  have hf:=fun H=>ux b 1024 (by decide) hl hb H
  generalize cH b 1024=t at*
  obtain⟨v,r,e⟩:=t
  simp only at hO hf
  by_cases he:e=0
  ·rw[if_pos he]at hO
   rw[hO]
   subst he
   refine ag.bL (hint:=fun _=>false) Tryz.func45 (by kernel_rfl) rfl [.cell 4 25,.tmp 5,.tmp 6] (by kernel_rfl) (by simp[Tryz.ntmps45]) ?_
   rw[Tryz.ntmps45]
   simp -implicitDefEqProofs only[↓reduceIte,go_sem,Nat.reduceLT,Nat.reduceEqDiff,Int.reduceEq,reduceCtorEq,eq_self]
   refine ab.ok (hf _) ?_
   simp -implicitDefEqProofs only[↓reduceIte,go_sem,ak,Nat.reduceAdd,Nat.reduceLT,Nat.reduceLeDiff,Nat.reduceEqDiff,eq_self]
   refine bp.ret ?_
   simp -implicitDefEqProofs only[↓reduceIte,go_sem,ah,Nat.reduceAdd,Nat.reduceLT,Nat.reduceLeDiff,Nat.reduceEqDiff,eq_self,aK,bH]
  ·rw[if_neg he]at hO
   rw[hO]
   refine ag.bY (cs:=[zV.av,.d (.v (.slice none 0 0)),iA e]) ?_ (.cons (.refl _) (.cons .nil (.cons (.refl _) .nil)))
   refine ag.bL (hint:=fun _=>false) Tryz.func45 (by kernel_rfl) rfl [.cell 4 25,.tmp 5,.tmp 6] (by kernel_rfl) (by simp[Tryz.ntmps45]) ?_
   rw[Tryz.ntmps45]
   simp -implicitDefEqProofs only[↓reduceIte,go_sem,Nat.reduceLT,Nat.reduceEqDiff,Int.reduceEq,reduceCtorEq,eq_self]
   refine ab.ok (hf _) ?_
   simp -implicitDefEqProofs only[↓reduceIte,go_sem,ak,Nat.reduceAdd,Nat.reduceLT,Nat.reduceEqDiff,eq_self,he]
   refine bp.ret ?_
   simp -implicitDefEqProofs only[↓reduceIte,go_sem,ah,Nat.reduceAdd,Nat.reduceLT,Nat.reduceLeDiff,Nat.reduceEqDiff,eq_self,aK,bH,zV,dA]
 rw[if_neg h3]at hO
 rw[hO]
 refine ag.bY (cs:=[zV.av,.d (.v (.slice none 0 0)),iA 1]) ?_ (.cons (.refl _) (.cons .nil (.cons (.refl _) .nil)))
 refine ag.bL (hint:=fun _=>false) Tryz.func45 (by kernel_rfl) rfl [.cell 4 25,.tmp 5,.tmp 6] (by kernel_rfl) (by simp[Tryz.ntmps45]) ?_
 rw[Tryz.ntmps45]
 simp -implicitDefEqProofs only[↓reduceIte,go_sem,ak,Nat.reduceAdd,Nat.reduceLT,Nat.reduceEqDiff,eq_self,h0,h1,h2,h3]
 refine bp.ret ?_
 simp -implicitDefEqProofs only[↓reduceIte,go_sem,ah,Nat.reduceAdd,Nat.reduceLT,Nat.reduceLeDiff,Nat.reduceEqDiff,eq_self,aK,bH,zV,dA]
def aR(k:Int):Nat→List Nat→List ai×List Nat×Int
 |0,b=>([],b,0)
 |n+1,b=>if(dz b k).2.2=0 then(if(aR k n (dz b k).2.1).2.2=0 then((dz b k).1::(aR k n (dz b k).2.1).1,(aR k n (dz b k).2.1).2.1,0)else([],[],(aR k n (dz b k).2.1).2.2))else([],[],(dz b k).2.2)
def jN(L:List ai)(q:List ai×List Nat×Int):List ai×List Nat×Int:=if q.2.2=0 then(L++q.1,q.2.1,0)else([],[],q.2.2)
theorem r3(k:Int)(n:Nat)(b:List Nat):jN [] (aR k n b)=aR k n b:=by
 cases n with
 |zero=>simp[jN,aR]
 |succ n=>
  unfold jN aR
  split
  ·split
   ·rfl
   ·rename_i h;simp[]
  ·rename_i h;simp[]
theorem o7{k:Int}{n:Nat}{b r:List Nat}{v:ai}(L:List ai)(h:dz b k=(v,r,0)):jN L (aR k (n+1) b)=jN (L++[v]) (aR k n r):=by
 unfold jN
 rw[show aR k (n+1) b=if(dz b k).2.2=0 then(if(aR k n (dz b k).2.1).2.2=0 then((dz b k).1::(aR k n (dz b k).2.1).1,(aR k n (dz b k).2.1).2.1,0)else([],[],(aR k n (dz b k).2.1).2.2))else([],[],(dz b k).2.2)from rfl,h]
 simp only[if_true]
 by_cases h2:(aR k n r).2.2=0
 ·simp[h2]
 ·simp[h2]
theorem p0{k:Int}{n:Nat}{b r:List Nat}{v:ai}{e:Int}(L:List ai)(h:dz b k=(v,r,e))(he:e≠0):jN L (aR k (n+1) b)=([],[],e):=by
 unfold jN
 rw[show aR k (n+1) b=if(dz b k).2.2=0 then(if(aR k n (dz b k).2.1).2.2=0 then((dz b k).1::(aR k n (dz b k).2.1).1,(aR k n (dz b k).2.1).2.1,0)else([],[],(aR k n (dz b k).2.1).2.2))else([],[],(dz b k).2.2)from rfl,h]
 simp[he]
theorem dP(b:List Nat)(k:Int):∃j,(dz b k).2.1=b.drop j:=by
 have nil:∃j,([]:List Nat)=b.drop j:=⟨b.length,by simp⟩
 unfold dz
 split
 ·exact⟨0,rfl⟩
 split
 ·split
  ·exact⟨_,rfl⟩
  ·exact nil
 split
 ·unfold iw
  split
  ·exact nil
  ·split
   ·exact⟨8,rfl⟩
   ·exact nil
 split
 ·split
  ·unfold cH
   obtain⟨j,h⟩:=j4 10 0 b
   rcases hn:dh 10 0 b with⟨_|n,r⟩
   ·exact nil
   ·rw[hn]at h
    simp only at h⊢
    split
    ·exact nil
    ·split
     ·exact nil
     ·exact⟨j+n,by rw[h,List.drop_drop]⟩
  ·exact nil
 ·exact nil
def j6(W:List ai):Prop:=∀i x y,W[i]?=some x→W[i+1]?=some y→aO x y<0
noncomputable instance j6.dec (W:List ai):Decidable (j6 W):=Classical.propDecidable _
noncomputable def eK(k:Int)(n:Nat)(b:List Nat):List ai×List Nat×Int:=if(aR k n b).2.2=0 then(if j6 (aR k n b).1 then aR k n b else([],[],4))else([],[],(aR k n b).2.2)
theorem uW(b:List Nat)(m:Nat)(k:Int)(hm:m≤4096)(hl:b.length≤140737488351232)(hb:∀c∈b,c<256)(H:aa):
  ag Tryz.prog 156 [.d (.list false (aG b)),iA m,iA k] H (.ok (if(eK k m b).2.2=0 then .bf [.d (.list false ((eK k m b).1.map ai.enc)),.d (.list false (aG (eK k m b).2.1)),iA 0]else .bf [.d (.v (.slice none 0 0)),.d (.v (.slice none 0 0)),iA (eK k m b).2.2])) H:=by
 have hR:eK k m b=if(aR k m b).2.2=0 then(if j6 (aR k m b).1 then aR k m b else([],[],4))else([],[],(aR k m b).2.2):=by unfold eK;rfl
 have hj0:=r3 k m b
 refine ag.aj (hint:=(fun _=>false)) Tryz.func156 (by kernel_rfl) rfl [6,7,8] (by kernel_rfl) (by decide) (by simp[Tryz.ntmps156]) ?_
 rw[Tryz.ntmps156]
 simp -implicitDefEqProofs only[↓reduceIte,go_sem,Nat.reduceEqDiff]
 refine bl (fun j s H'=>∃L c,H'=H++[.arr 25 3 j (L.map ai.enc)]∧L.length=j∧c.length≤b.length∧(∀x∈c,x<256)∧jN L (aR k (m-j) c)=aR k m b∧s 0= .d (.list false (aG c))∧s 2=iA k∧s 9= .sl H.length j 0 j∧s 14=iA m∧s 15=iA j) m (by omega) (ar.eU _ _ 9 25 3 (by decide) (by simp -implicitDefEqProofs only[↓reduceIte,go_sem,Nat.reduceLT,Nat.reduceEqDiff,eq_self]) _) ?_ ?_ ?_
 ·refine⟨[],b,rfl,rfl,Nat.le_refl _,hb,by simpa using hj0,?_⟩
  simp -implicitDefEqProofs only[↓reduceIte,go_sem,Nat.reduceLT,Nat.reduceEqDiff,reduceCtorEq,eq_self]
 ·rintro j s H' hj hw ⟨L,c,rfl,hL,hcl,hcb,hjoin,t0,t2,t9,t14,t15⟩
  have hod:=fun H=>eE c k (by omega) hcb H
  obtain⟨p,hp⟩:=dP c k
  obtain⟨q,hq⟩:∃q,m-j=q+1:=⟨m-j-1,by omega⟩
  have hst:=fun v r h=>o7 (k:=k) (n:=q) (b:=c) (r:=r) (v:=v) L h
  have hsp:=fun v r e h he=>p0 (k:=k) (n:=q) (b:=c) (r:=r) (v:=v) (e:=e) L h he
  rw[hq]at hjoin
  rcases hv:dz c k with⟨v,r,e⟩
  simp only[hv]at hod hp hst hsp
  simp -implicitDefEqProofs only[↓reduceIte,go_sem,Nat.reduceLT,Nat.reduceEqDiff,reduceCtorEq,eq_self,t0,t2,t14,t15,hj]
  refine ab.ok (hod _) ?_
  by_cases he:e=0
  ·subst he
   have hsn:L.map ai.enc++[[D.v (.int .i64 v.kind),D.v (.int .i64 v.i),D.v (.string v.s)]]=(L++[v]).map ai.enc:=by simp[ai.enc]
   simp -implicitDefEqProofs only[↓reduceIte,go_sem,ah,ak,Nat.reduceAdd,Nat.reduceLT,Nat.reduceLeDiff,Nat.reduceEqDiff,reduceCtorEq,eq_self,t9,List.length_map,hL,hsn]
   refine⟨by omega,by omega,?_⟩
   simp -implicitDefEqProofs only[↓reduceIte,go_sem,Nat.reduceLT,eq_self,t15]
   refine eQ.cut [.arr 25 3 (j+1) ((L++[v]).map ai.enc)] [D3 v] 1 rfl rfl (by simp -implicitDefEqProofs only[go_sem,eq_self]) ?_
   refine⟨L++[v],r,rfl,by simp[hL],?_,?_,?_,?_⟩
   ·rw[hp,List.length_drop];omega
   ·intro x hx
    rw[hp]at hx
    exact hcb x (List.mem_of_mem_drop hx)
   ·rw[show m-(j+1)=q by omega,←hst v r rfl,hjoin]
   ·simp -implicitDefEqProofs only[↓reduceIte,go_sem,Nat.reduceLT,Nat.reduceEqDiff,reduceCtorEq,eq_self,t2,t14,hw]
  ·simp -implicitDefEqProofs only[↓reduceIte,go_sem,ak,Nat.reduceAdd,Nat.reduceLT,Nat.reduceEqDiff,eq_self,he]
   refine aw.ret ?_
   have hN:aR k m b=([],[],e):=by rw[←hjoin];exact hsp v r e rfl he
   rw[hR,hN]
   simp -implicitDefEqProofs only[↓reduceIte,go_sem,Nat.reduceLT,Nat.reduceEqDiff,eq_self,he]
 ·rintro s H' ⟨L,c,rfl,hL,hcl,hcb,hjoin,t0,t2,t9,t14,t15⟩
  have hN:aR k m b=(L,c,0):=by rw[←hjoin,Nat.sub_self];simp[jN,aR]
  rw[hN]at hR
  simp only[if_true]at hR
  rw[hR]
  clear hR hN hjoin hj0
  simp -implicitDefEqProofs only[↓reduceIte,go_sem,Nat.reduceLT,eq_self,t14,t15]
  refine fM (fun i s H'=>H'=H++[.arr 25 3 m (L.map ai.enc)]∧(∀j x y,j<i→L[j]?=some x→L[j+1]?=some y→aO x y<0)∧s 0= .d (.list false (aG c))∧s 9= .sl H.length m 0 m∧s 13=iA ((i+1:Nat):Int)) (m-1) (by omega) (ar.refl _ _) ?_ ?_ ?_
  ·refine⟨rfl,fun j x y hj=>by omega,?_⟩
   simp -implicitDefEqProofs only[↓reduceIte,go_sem,Nat.reduceLT,Nat.reduceEqDiff,reduceCtorEq,eq_self,t0,t9]
  ·rintro i s H' hi hw ⟨rfl,hri,t0,t9,t13⟩
   have h1:=List.getElem?_eq_getElem (show i<L.length by omega)
   have h2:=List.getElem?_eq_getElem (show i+1<L.length by omega)
   generalize L[i]=x at h1
   generalize L[i+1]=y at h2
   have hw1:IntKind.i64.wrap (((i+1:Nat):Int)-1)=(i:Int):=by rw[wrap64_in _ (by omega) (by omega)];omega
   have hw2:IntKind.i64.wrap (((i+1:Nat):Int)+1)=((i+1+1:Nat):Int):=by rw[wrap64_in _ (by omega) (by omega)];omega
   have g0:((i+1:Nat):Int)<(m:Int):=by omega
   have g1:((i:Nat):Int)<(m:Int):=by omega
   generalize hI:i+1=I at*
   simp -implicitDefEqProofs only[↓reduceIte,go_sem,Nat.reduceLT,Nat.reduceEqDiff,eq_self,t9,t13,show((I:Int)<(m:Int))=True from eq_true g0]
   refine bP K.mixed (by kernel_rfl) ?_
   simp -implicitDefEqProofs only[↓reduceIte,go_sem,ah,Nat.reduceAdd,Nat.reduceLT,Nat.reduceEqDiff,eq_self,t9,t13,hw1,h1,h2,show I<m by omega,show i<m by omega,ai.enc]
   refine ab.ok (dI x y _) ?_
   by_cases hc:aO x y<0
   ·simp -implicitDefEqProofs only[↓reduceIte,go_sem,Nat.reduceLT,Nat.reduceEqDiff,eq_self,show(0≤aO x y)=False from eq_false (by omega),t13,hw2]
    refine eQ.same ⟨rfl,?_,?_⟩
    ·intro j a b hj
     rcases Nat.lt_or_ge j i with h|h
     ·exact hri j a b h
     ·obtain rfl:j=i:=by omega
      rw[hI,h1,h2]
      rintro⟨rfl⟩ ⟨rfl⟩
      exact hc
    ·simp -implicitDefEqProofs only[↓reduceIte,go_sem,Nat.reduceLT,Nat.reduceEqDiff,reduceCtorEq,eq_self,t0,t9]
   ·simp -implicitDefEqProofs only[↓reduceIte,go_sem,Nat.reduceLT,eq_self,show(0≤aO x y)=True from eq_true (by omega)]
    refine aw.ret ?_
    have hno:¬j6 L:=fun h=>hc (h i x y h1 (by rw[hI];exact h2))
    rw[if_neg hno]
    simp -implicitDefEqProofs only[↓reduceIte,go_sem,Nat.reduceLT,Nat.reduceEqDiff,Int.reduceEq,eq_self]
  ·rintro s H' ⟨rfl,hri,t0,t9,t13⟩
   have hyes:j6 L:=fun i x y hx hy=>hri i x y (by have:=(List.getElem?_eq_some_iff.1 hy).1;omega) hx hy
   have g0:¬((m-1:Nat):Int)+1<(m:Int):=by omega
   rw[if_pos hyes]
   simp -implicitDefEqProofs only[↓reduceIte,go_sem,Nat.reduceLT,Nat.reduceEqDiff,reduceCtorEq,eq_self,t0,t9,t13,eq_false g0]
   refine aw.ret ?_
   simp -implicitDefEqProofs only[↓reduceIte,go_sem,Nat.reduceLT,Nat.reduceEqDiff,eq_self,List.take_of_length_le (show(L.map ai.enc).length≤m by rw[List.length_map];omega)]
theorem zm(b:List Nat)(m:Nat)(k:Int)(hm:m≤4096)(hl:b.length≤140737488351232)(hb:∀c∈b,c<256)(H:aa):
  ag Tryz.prog 156 [.d (.list false (aG b)),iA m,iA k] H (.ok (.bf [.d (.list false ((eK k m b).1.map ai.enc)),.d (.list false (aG (eK k m b).2.1)),iA (eK k m b).2.2])) H:=by
 have h:=uW b m k hm hl hb H
 by_cases he:(eK k m b).2.2=0
 ·rw[if_pos he]at h
  rw[he]
  exact h
 ·rw[if_neg he]at h
  have hz:eK k m b=([],[],(eK k m b).2.2):=by
   unfold eK at he⊢
   split
   ·rename_i h1
    rw[if_pos h1]at he
    split
    ·rename_i h2
     rw[if_pos h2]at he
     exact absurd h1 he
    ·rfl
   ·rfl
  rw[hz]
  exact ag.bY h (.cons .nil (.cons .nil (.cons (.refl _) .nil)))
def iy(l:List ai)(k:Int):List Nat:=if aL l k=0 then aW l else[]
theorem BM{l:List ai}(hok:∀v∈l,dF v.i)(hm:∀v∈l,cT v=true):∀k,k≤l.length→(aW (l.take k)).length≤k* 1035:=by
 intro k
 induction k with
 |zero=>intro _;simp[aW]
 |succ k ih=>
  intro hk
  have hk':k<l.length:=by omega
  rw[List.take_succ_eq_append_getElem hk',iv,List.length_append]
  have h1:=ih (by omega)
  have h2:=dx (hok _ (List.getElem_mem hk')) (hm _ (List.getElem_mem hk'))
  omega
theorem oy(l:List ai)(k:Int)(hok:∀v∈l,dF v.i)(H:aa)(hl:l.length≤1000000000000):
  ag Tryz.prog 76 [.d (.list false (l.map ai.enc)),iA k] H (.ok (.bf [.d (.list false (aG (iy l k))),iA (aL l k)])) H:=by
 by_cases hp:aL l k=0
 ·rw[show iy l k=aW l from if_pos hp]
  have hmay:=eF hp
  have h4:=dX hp
  have hWb:=BM hok hmay
  refine ag.aj (hint:=(fun _=>false)) Tryz.func76 (by kernel_rfl) rfl [4,5] (by kernel_rfl) (by decide) (by simp[Tryz.ntmps76]) ?_
  rw[Tryz.ntmps76]
  simp -implicitDefEqProofs only[↓reduceIte,go_sem,Nat.reduceLT,Nat.reduceEqDiff,reduceCtorEq,eq_self]
  refine ab.ok (dW l k false _ (by omega)) ?_
  rw[hp]
  simp -implicitDefEqProofs only[↓reduceIte,go_sem,Nat.reduceLT,reduceCtorEq,eq_self]
  refine bl (fun j s H'=>∃ver,H'=H++[.arr 5 1 ver (aG (aW (l.take j)))]∧s 7= .sl H.length ver 0 (aW (l.take j)).length∧s 18= .d (.list false (l.map ai.enc))∧s 19=iA l.length∧s 20=iA j) l.length (by omega) (ar.eU _ _ 7 5 1 (by decide) (by simp -implicitDefEqProofs only[↓reduceIte,go_sem,Nat.reduceLT,Nat.reduceEqDiff,eq_self]) _) ?_ ?_ ?_
  ·refine⟨0,rfl,?_⟩
   simp -implicitDefEqProofs only[↓reduceIte,go_sem,Nat.reduceLT,Nat.reduceEqDiff,eq_self]
   rfl
  ·rintro j s H' hj hw ⟨ver,rfl,t7,t18,t19,t20⟩
   have hx:=List.getElem?_eq_getElem hj
   have hm:=List.getElem_mem hj
   have hb:=hWb j (by omega)
   have hvl:=dx (hok _ hm) (hmay _ hm)
   have e1:aW (l.take (j+1))=aW (l.take j)++cS l[j]:=by rw[List.take_succ_eq_append_getElem hj,iv]
   have hvd:=fun H=>ey l[j] (hok _ hm) (hmay _ hm) H
   rw[e1]
   generalize aW (l.take j)=B at*
   generalize l[j]=w at*
   simp -implicitDefEqProofs only[↓reduceIte,go_sem,ah,ak,Nat.reduceAdd,Nat.reduceLT,Nat.reduceEqDiff,eq_self,t18,t19,t20,hj,hx,ai.enc]
   refine ab.ok (hvd _) ?_
   simp -implicitDefEqProofs only[↓reduceIte,go_sem,Nat.reduceLT,Nat.reduceEqDiff,eq_self,t7,aS,al,eB]
   refine⟨by omega,by omega,?_⟩
   simp -implicitDefEqProofs only[↓reduceIte,go_sem,Nat.reduceLT,eq_self,t20]
   refine eQ.cut [.arr 5 1 (ver+1) (aG (B++cS w))] [.box 25 3 0 1 [iA w.kind,iA w.i,sA w.s]] 1 rfl rfl (by simp -implicitDefEqProofs only[go_sem,eq_self]) ?_
   refine⟨ver+1,rfl,?_⟩
   simp -implicitDefEqProofs only[↓reduceIte,go_sem,Nat.reduceLT,Nat.reduceEqDiff,eq_self,t18,t19,hw]
  ·rintro s H' ⟨ver,rfl,t7,t18,t19,t20⟩
   rw[show l.take l.length=l from List.take_length]at*
   simp -implicitDefEqProofs only[↓reduceIte,go_sem,Nat.reduceLT,Nat.reduceEqDiff,eq_self,t7,t19,t20]
   refine aw.ret ?_
   simp -implicitDefEqProofs only[↓reduceIte,go_sem,Nat.reduceLT,Nat.reduceEqDiff,eq_self,List.take_of_length_le (Nat.le_of_eq (al (aW l)))]
 ·rw[show iy l k=[]from if_neg hp]
  refine ag.bY (cs:=[.d (.v (.slice none 0 0)),iA (aL l k)]) ?_ (.cons .nil (.cons (.refl _) .nil))
  refine ag.aj (hint:=(fun _=>false)) Tryz.func76 (by kernel_rfl) rfl [4,5] (by kernel_rfl) (by decide) (by simp[Tryz.ntmps76]) ?_
  rw[Tryz.ntmps76]
  simp -implicitDefEqProofs only[↓reduceIte,go_sem,Nat.reduceLT,Nat.reduceEqDiff,reduceCtorEq,eq_self]
  refine ab.ok (dW l k false _ (by omega)) ?_
  simp -implicitDefEqProofs only[↓reduceIte,go_sem,Nat.reduceLT,Nat.reduceEqDiff,eq_self,hp]
  refine aw.bq ?_
  simp -implicitDefEqProofs only[↓reduceIte,go_sem,Nat.reduceLT,Nat.reduceEqDiff,eq_self]
def bB(b:List Nat):aA:= .box 22 1 0 1 [.d (.list false (aG b))]
def kB(k:Int):aA:= .box 3 1 0 1 [iA k]
theorem uB(b:List Nat)(k:Int)(hl:b.length≤140737488351232)(hb:∀c∈b,c<256)(G:aa)(ib ik:Nat)(h1:G[ib]?=some (bB b))(h2:G[ik]?=some (kB k)):
  ag Tryz.prog 115 [.ptr ib 0 0 0,.ptr ik 0 0 0] G (.ok (.bf [(dz b k).1.av,iA (dz b k).2.2])) (G.set ib (bB (dz b k).2.1)):=by
 have hd:=fun H=>eE b k hl hb H
 generalize dz b k=t at*
 obtain⟨v,r,e⟩:=t
 simp only at hd⊢
 have l1:=ao h1
 have l2:=ao h2
 unfold bB kB at*
 refine ag.bL (hint:=fun _=>false) Tryz.func115 (by kernel_rfl) rfl [.cell 2 25,.tmp 3] (by kernel_rfl) (by simp[Tryz.ntmps115]) ?_
 rw[Tryz.ntmps115]
 simp -implicitDefEqProofs only[↓reduceIte,go_sem,ah,Nat.reduceLT,Nat.reduceEqDiff,reduceCtorEq,eq_self,h1,h2,List.getElem?_append_left l1,List.getElem?_append_left l2]
 refine ab.ok (hd _) ?_
 have hset:∀x y:aA,(G++[x]).set ib y=G.set ib y++[x]:=fun x y=>List.set_append_left ib y l1
 have hget:∀(x y:aA),(G.set ib y++[x])[G.length]?=some x:=fun x y=>by rw[List.getElem?_append_right (by rw[List.length_set];exact Nat.le_refl _),List.length_set,Nat.sub_self];rfl
 have hst2:∀(x y z:aA),(G.set ib y++[x]).set G.length z=G.set ib y++[z]:=fun x y z=>by rw[List.set_append_right G.length z (by rw[List.length_set];exact Nat.le_refl _),List.length_set,Nat.sub_self];rfl
 simp -implicitDefEqProofs only[↓reduceIte,go_sem,ah,ak,Nat.reduceAdd,Nat.reduceLT,Nat.reduceEqDiff,reduceCtorEq,eq_self,h1,List.getElem?_append_left l1,hset,hget,hst2]
 refine bp.Hc (by simp -implicitDefEqProofs only[go_sem,eq_self]) ?_
 simp -implicitDefEqProofs only[↓reduceIte,go_sem,ah,Nat.reduceAdd,Nat.reduceLT,Nat.reduceLeDiff,Nat.reduceEqDiff,eq_self,aK,bH,hget]
def dq(b:List Nat)(n k:Int):List ai×Int:=
 if bI k=false then([],1)
 else if n<0 then([],2)
 else if 4096<n then([],2)
 else if(aR k n.toNat b).2.2≠0 then([],(aR k n.toNat b).2.2)
 else if(aR k n.toNat b).2.1≠[]then([],4)
 else((aR k n.toNat b).1,0)
theorem tt(b:List Nat)(n k:Int)(hl:b.length≤140737488351232)(hb:∀c∈b,c<256)(H:aa):
  ag Tryz.prog 78 [.d (.list false (aG b)),iA n,iA k] H (.ok (.bf [.d (.list false ((dq b n k).1.map ai.enc)),iA (dq b n k).2])) H:=by
 by_cases hk:bI k=false
 ·rw[show dq b n k=([],1)from if_pos hk]
  refine ag.bY (cs:=[.d (.v (.slice none 0 0)),iA 1]) ?_ (.cons .nil (.cons (.refl _) .nil))
  refine ag.aj (hint:=(fun _=>false)) Tryz.func78 (by kernel_rfl) rfl [6,7] (by kernel_rfl) (by decide) (by simp[Tryz.ntmps78]) ?_
  rw[Tryz.ntmps78]
  simp -implicitDefEqProofs only[↓reduceIte,go_sem,ah,Nat.reduceLT,Nat.reduceEqDiff,eq_self]
  refine ab.ok (eD k _) ?_
  simp -implicitDefEqProofs only[↓reduceIte,go_sem,Nat.reduceLT,eq_self,hk]
  refine aw.ret ?_
  simp -implicitDefEqProofs only[↓reduceIte,go_sem,Nat.reduceLT,Nat.reduceEqDiff,eq_self]
 rw[show dq b n k=_ from if_neg hk]
 have hk1:bI k=true:=by simpa using hk
 by_cases h1:n<0
 ·rw[if_pos h1]
  refine ag.bY (cs:=[.d (.v (.slice none 0 0)),iA 2]) ?_ (.cons .nil (.cons (.refl _) .nil))
  refine ag.aj (hint:=(fun _=>false)) Tryz.func78 (by kernel_rfl) rfl [6,7] (by kernel_rfl) (by decide) (by simp[Tryz.ntmps78]) ?_
  rw[Tryz.ntmps78]
  simp -implicitDefEqProofs only[↓reduceIte,go_sem,ah,Nat.reduceLT,Nat.reduceEqDiff,eq_self]
  refine ab.ok (eD k _) ?_
  simp -implicitDefEqProofs only[↓reduceIte,go_sem,Nat.reduceLT,Nat.reduceEqDiff,eq_self,hk1,h1]
  refine aw.ret ?_
  simp -implicitDefEqProofs only[↓reduceIte,go_sem,Nat.reduceLT,Nat.reduceEqDiff,eq_self]
 rw[if_neg h1]
 by_cases h2:4096<n
 ·rw[if_pos h2]
  refine ag.bY (cs:=[.d (.v (.slice none 0 0)),iA 2]) ?_ (.cons .nil (.cons (.refl _) .nil))
  refine ag.aj (hint:=(fun _=>false)) Tryz.func78 (by kernel_rfl) rfl [6,7] (by kernel_rfl) (by decide) (by simp[Tryz.ntmps78]) ?_
  rw[Tryz.ntmps78]
  simp -implicitDefEqProofs only[↓reduceIte,go_sem,ah,Nat.reduceLT,Nat.reduceEqDiff,eq_self]
  refine ab.ok (eD k _) ?_
  simp -implicitDefEqProofs only[↓reduceIte,go_sem,Nat.reduceLT,Nat.reduceEqDiff,reduceCtorEq,eq_self,hk1,h1,h2]
  refine aw.ret ?_
  simp -implicitDefEqProofs only[↓reduceIte,go_sem,Nat.reduceLT,Nat.reduceEqDiff,eq_self]
 rw[if_neg h2]
 obtain⟨m,rfl⟩:∃m:Nat,n=(m:Int):=⟨n.toNat,by omega⟩
 rw[Int.toNat_natCast]
 have h1f:((m:Int)<0)=False:=eq_false h1
 have h2f:((4096:Int)<(m:Int))=False:=eq_false h2
 have hj0:=r3 k m b
 suffices h:ag Tryz.prog 78 [.d (.list false (aG b)),iA m,iA k] H (.ok (if(aR k m b).2.2≠0 then .bf [.d (.v (.slice none 0 0)),iA (aR k m b).2.2]else if(aR k m b).2.1≠[]then .bf [.d (.v (.slice none 0 0)),iA 4]else .bf [.d (.list false ((aR k m b).1.map ai.enc)),iA 0])) H by
  by_cases c1:(aR k m b).2.2≠0
  ·rw[if_pos c1]at h⊢
   exact ag.bY h (.cons .nil (.cons (.refl _) .nil))
  ·rw[if_neg c1]at h⊢
   by_cases c2:(aR k m b).2.1≠[]
   ·rw[if_pos c2]at h⊢
    exact ag.bY h (.cons .nil (.cons (.refl _) .nil))
   ·rw[if_neg c2]at h⊢
    exact h
 refine ag.aj (hint:=(fun _=>false)) Tryz.func78 (by kernel_rfl) rfl [6,7] (by kernel_rfl) (by decide) (by simp[Tryz.ntmps78]) ?_
 rw[Tryz.ntmps78]
 simp -implicitDefEqProofs only[↓reduceIte,go_sem,ah,Nat.reduceLT,Nat.reduceEqDiff,eq_self]
 refine ab.ok (eD k _) ?_
 simp -implicitDefEqProofs only[↓reduceIte,go_sem,Nat.reduceLT,Nat.reduceEqDiff,reduceCtorEq,eq_self,hk1,h1f,h2f]
 refine bl (fun j s H'=>∃L c,H'=H++[bB c,kB k,.arr 25 3 j (L.map ai.enc)]∧L.length=j∧c.length≤b.length∧(∀x∈c,x<256)∧jN L (aR k (m-j) c)=aR k m b∧s 3= .ptr H.length 0 0 0∧s 8= .fn 115 [.ptr H.length 0 0 0,.ptr (H.length+1) 0 0 0]∧s 9= .sl (H.length+2) j 0 j∧s 24=iA m∧s 25=iA j) m (by omega) (ar.eU _ _ 9 25 3 (by decide) (by simp -implicitDefEqProofs only[↓reduceIte,go_sem,Nat.reduceLT,Nat.reduceEqDiff,eq_self]) _) ?_ ?_ ?_
 ·refine⟨[],b,by simp -implicitDefEqProofs only[go_sem,eq_self,bB,kB],rfl,Nat.le_refl _,hb,by simpa using hj0,?_⟩
  simp -implicitDefEqProofs only[↓reduceIte,go_sem,Nat.reduceAdd,Nat.reduceLT,Nat.reduceEqDiff,eq_self]
 ·rintro j s H' hj hw ⟨L,c,rfl,hL,hcl,hcb,hjoin,t3,t8,t9,t24,t25⟩
  obtain⟨p,hp⟩:=dP c k
  obtain⟨q,hq⟩:∃q,m-j=q+1:=⟨m-j-1,by omega⟩
  have hst:=fun v r h=>o7 (k:=k) (n:=q) (b:=c) (r:=r) (v:=v) L h
  have hsp:=fun v r e h he=>p0 (k:=k) (n:=q) (b:=c) (r:=r) (v:=v) (e:=e) L h he
  have hod:=uB c k (by omega) hcb (H++[bB c,kB k,.arr 25 3 j (L.map ai.enc)]) H.length (H.length+1) (by simp) (by simp)
  rw[show ∀x,(H++[bB c,kB k,.arr 25 3 j (L.map ai.enc)]).set H.length x=H++[x,kB k,.arr 25 3 j (L.map ai.enc)]from fun x=>by simp[]]at hod
  rw[hq]at hjoin
  rcases hv:dz c k with⟨v,r,e⟩
  simp only[hv]at hod hp hst hsp
  simp -implicitDefEqProofs only[↓reduceIte,go_sem,Nat.reduceLT,Nat.reduceEqDiff,eq_self,t8,t24,t25,hj]
  refine ab.ok hod ?_
  by_cases he:e=0
  ·subst he
   have hsn:L.map ai.enc++[[D.v (.int .i64 v.kind),D.v (.int .i64 v.i),D.v (.string v.s)]]=(L++[v]).map ai.enc:=by simp[ai.enc]
   simp -implicitDefEqProofs only[↓reduceIte,go_sem,ah,ak,Nat.reduceAdd,Nat.reduceLT,Nat.reduceLeDiff,Nat.reduceEqDiff,eq_self,t9,List.length_map,hL,hsn]
   refine⟨by omega,by omega,?_⟩
   simp -implicitDefEqProofs only[↓reduceIte,go_sem,Nat.reduceLT,eq_self,t25]
   refine eQ.cut [bB r,kB k,.arr 25 3 (j+1) ((L++[v]).map ai.enc)] [.box 25 3 0 1 [iA v.kind,iA v.i,sA v.s]] 3 rfl rfl (by simp -implicitDefEqProofs only[go_sem,eq_self,bB,kB]) ?_
   refine⟨L++[v],r,rfl,by simp[hL],?_,?_,?_,?_⟩
   ·rw[hp,List.length_drop];omega
   ·intro x hx
    rw[hp]at hx
    exact hcb x (List.mem_of_mem_drop hx)
   ·rw[show m-(j+1)=q by omega,←hst v r rfl,hjoin]
   ·simp -implicitDefEqProofs only[↓reduceIte,go_sem,Nat.reduceLT,Nat.reduceEqDiff,eq_self,t3,t8,t24,hw]
  ·simp -implicitDefEqProofs only[↓reduceIte,go_sem,ak,Nat.reduceAdd,Nat.reduceLT,Nat.reduceEqDiff,eq_self,he]
   refine aw.ret ?_
   have hN:aR k m b=([],[],e):=by rw[←hjoin];exact hsp v r e rfl he
   rw[hN]
   simp -implicitDefEqProofs only[↓reduceIte,go_sem,Nat.reduceLT,Nat.reduceEqDiff,eq_self,he,ne_eq,not_false_eq_true]
 ·rintro s H' ⟨L,c,rfl,hL,hcl,hcb,hjoin,t3,t8,t9,t24,t25⟩
  have hN:aR k m b=(L,c,0):=by rw[←hjoin,Nat.sub_self];simp[jN,aR]
  rw[hN]
  by_cases hc:c=[]
  ·subst hc
   simp -implicitDefEqProofs only[↓reduceIte,go_sem,ah,Nat.reduceLT,Nat.reduceEqDiff,Int.reduceLT,eq_self,t3,t9,t24,t25,bB,kB,al,List.length_nil]
   refine aw.ret ?_
   simp -implicitDefEqProofs only[↓reduceIte,go_sem,Nat.reduceLT,Nat.reduceEqDiff,eq_self,ne_eq,not_true_eq_false,List.take_of_length_le (show(L.map ai.enc).length≤m by rw[List.length_map];omega)]
  ·have hcp:0<c.length:=List.length_pos_iff.2 hc
   simp -implicitDefEqProofs only[↓reduceIte,go_sem,ah,Nat.reduceLT,Nat.reduceEqDiff,eq_self,t3,t24,t25,bB,kB,al,show(0<(c.length:Int))=True from eq_true (by omega)]
   refine aw.ret ?_
   simp -implicitDefEqProofs only[↓reduceIte,go_sem,Nat.reduceLT,Nat.reduceEqDiff,eq_self,ne_eq,hc,not_true_eq_false,not_false_eq_true]
end Go.Proofs.YtmbagpfmfiegkaaGreat
