/- Contracts of functions and lemmas for planTwice_holds, part 8. -/
import Derived.Laws.Externs
import Derived.Laws.Bits64b
import Derived.Lib.Mul64
import Derived.Test.YtfklokhopcmloaaGreatM07
set_option maxHeartbeats 8000000
set_option maxRecDepth 100000
set_option linter.all false
namespace Go.Proofs.YtfklokhopcmloaaGreat
open Go.Proofs.YtfklokhopcmloaaGreatAw Go.RowKit
def bP(l:List aj):List aj:=l.filter fun v=>decide (v.kind≠0)
def oK(l:List aj):List (List AV):=(bP l).map fun v=>[v.av]
abbrev lB(l:List aj):aA:= .box 106 1 0 1 [.d (.list false (l.map aj.enc))]
theorem uK(l:List aj)(v:aj):bP (l++[v])=if v.kind=0 then bP l else bP l++[v]:=by
 unfold bP
 rw[List.filter_append]
 by_cases h:v.kind=0<;>simp[h]
theorem Ar(l:List aj){k:Nat}(hk:k<l.length)(hz:l[k].kind≠0):∃h:(bP (l.take k)).length<(oK l).length,(oK l)[(bP (l.take k)).length]=[l[k].av]:=by
 have e:bP l=bP (l.take k)++l[k]::bP (l.drop (k+1)):=by
  have h1:l=l.take k++(l[k]::l.drop (k+1)):=by rw[←List.drop_eq_getElem_cons hk,List.take_append_drop]
  have h2:bP (l.take k++(l[k]::l.drop (k+1)))=bP (l.take k)++l[k]::bP (l.drop (k+1)):=by
   unfold bP
   rw[List.filter_append,List.filter_cons,if_pos (by simpa using hz)]
  rw[←h1]at h2
  exact h2
 unfold oK
 rw[e]
 refine⟨by simp,?_⟩
 simp
theorem yF(l:List aj)(H:aa):ae Tryz.prog 91 [.d (.list false (l.map aj.enc))] H (.ok (.fn 108 [.ptr H.length 0 0 0])) (H++[lB l]):=by
 refine ae.ak (hint:=(fun _=>false)) Tryz.func91 (by kernel_rfl) rfl [2] (by kernel_rfl) (by decide) (by simp[Tryz.ntmps91]) ?_
 rw[Tryz.ntmps91]
 simp -implicitDefEqProofs only[↓reduceIte,go_sem,Nat.reduceLT,Nat.reduceEqDiff]
 exact⟨_,al.refl _ _,by simp -implicitDefEqProofs only[↓reduceIte,go_sem,Nat.reduceLT]⟩
theorem Bi(l:List aj)(id:Nat)(hl:l.length≤1000000000000):lL Tryz.prog 108 [.ptr id 0 0 0] (fun H=>H[id]?=some (lB l)) (oK l):=by
 intro r s0 J Jx m Hs h0 hsb hJ hY
 refine nA.ak (hint:=fun t=>t==3000000) Tryz.func108 (by kernel_rfl) rfl [] (by kernel_rfl) (by decide) (by simp[Tryz.ntmps108]) ?_
 rw[Tryz.ntmps108]
 obtain⟨hC0,_,hl0⟩:=hJ 0 Hs h0
 have hx0:(Hs++[aA.lp r s0])[id]?=some (lB l):=by rw[List.getElem?_append_left (ah hC0)];exact hC0
 simp -implicitDefEqProofs only[↓reduceIte,go_sem,ai,Nat.reduceLT,hx0]
 refine aR (fun k s H'=>∃Hk,J (bP (l.take k)).length Hk∧H'=Hk++[.lp r s0]∧s 0= .fm m∧s 5= .d (.list false (l.map aj.enc))∧s 6=iA l.length∧s 7=iA k) l.length (by omega) (al.refl _ _) ?_ ?_ ?_
 ·refine⟨Hs,h0,rfl,?_⟩
  simp -implicitDefEqProofs only[↓reduceIte,go_sem,Nat.reduceLT,Nat.reduceEqDiff,reduceCtorEq]
 ·rintro k s H' hk hw ⟨Hk,hJk,rfl,t0,t5,t6,t7⟩
  have hx:(l.map aj.enc)[k]?=some [.v (.int .i64 l[k].kind),.v (.int .i64 l[k].i),.v (.string l[k].s)]:=by rw[List.getElem?_map,List.getElem?_eq_getElem hk];rfl
  have e1:=uK (l.take k) l[k]
  rw[←List.take_succ_eq_append_getElem hk]at e1
  obtain⟨hCk,hbk,hlk⟩:=hJ _ _ hJk
  by_cases hz:l[k].kind=0
  ·rw[if_pos hz]at e1
   generalize l[k]=v at*
   simp -implicitDefEqProofs only[↓reduceIte,go_sem,ai,aq,Nat.reduceAdd,Nat.reduceLT,Nat.reduceLeDiff,Nat.reduceEqDiff,Nat.reduceBEq,reduceCtorEq,t5,t6,t7,hk,hx,hz]
   refine⟨_,_,al.iter rfl hbk hlk hl0 hsb,Hk,by rw[e1];exact hJk,rfl,?_⟩
   simp -implicitDefEqProofs only[↓reduceIte,go_sem,Nat.reduceLT,Nat.reduceEqDiff,reduceCtorEq,t0,t5,t6,hw,Nat.lt_add_one]
  ·rw[if_neg hz]at e1
   obtain⟨hi,hxi⟩:=Ar l hk hz
   have hYk:=fun T=>hY _ hi Hk T hJk
   rw[hxi]at hYk
   generalize hv:l[k]=v at*
   simp -implicitDefEqProofs only[↓reduceIte,go_sem,ai,aq,Nat.reduceAdd,Nat.reduceLT,Nat.reduceLeDiff,Nat.reduceEqDiff,Nat.reduceBEq,reduceCtorEq,t0,t5,t6,t7,hk,hx,hz]
   refine ox.ok (hYk [.box 69 3 0 1 [iA v.kind,iA v.i,sA v.s]]) ?_
   intro b H' hb
   cases b with
   |true=>
    rw[if_pos rfl]at hb
    obtain⟨Hk',hJk',rfl⟩:=hb
    obtain⟨hCk',hbk',hlk'⟩:=hJ _ _ hJk'
    simp -implicitDefEqProofs only[↓reduceIte,go_sem,Nat.reduceAdd,Nat.reduceLT,Nat.reduceEqDiff,Nat.reduceBEq,t7]
    refine⟨_,_,al.iter rfl hbk' hlk' hl0 hsb,Hk',by rw[e1,List.length_append];exact hJk',rfl,?_⟩
    simp -implicitDefEqProofs only[↓reduceIte,go_sem,Nat.reduceLT,Nat.reduceEqDiff,reduceCtorEq,t0,t5,t6,hw,Nat.lt_add_one]
   |false=>
    rw[if_neg (by simp)]at hb
    obtain⟨Hk',c,hjx,hbk',hlk',rfl⟩:=hb
    simp -implicitDefEqProofs only[↓reduceIte,go_sem,Nat.reduceLT,Nat.reduceEqDiff]
    exact⟨_,_,al.iter rfl hbk' hlk' hl0 hsb,rfl,.inr ⟨Hk',c,hjx,hlk',rfl⟩⟩
 ·rintro s H' ⟨Hk,hJk,rfl,t0,t5,t6,t7⟩
  rw[List.take_length]at hJk
  simp -implicitDefEqProofs only[↓reduceIte,go_sem,Nat.reduceLT,t6,t7]
  exact⟨_,_,al.refl _ _,rfl,.inl ⟨Hk,by unfold oK;rw[List.length_map];exact hJk,rfl⟩⟩
def dL(l:List aj):List Bool:=l.map fun v=>decide (v.kind=0)
theorem sv(l:List aj)(v:aj):dL (l++[v])=dL l++[decide (v.kind=0)]:=by simp[dL]
theorem jB(l:List aj):(dL l).length=l.length:=by simp[dL]
theorem vj(l:List aj)(hl:l.length≤1000000000)(H:aa):ae Tryz.prog 74 [.d (.list false (l.map aj.enc))] H (.ok (.a7 [.d (.list false (gU (dL l))),.d (.list false ((bP l).map aj.enc))])) H:=by
 refine ae.ak (hint:=(fun t=>t==2000000)) Tryz.func74 (by kernel_rfl) rfl [2,3] (by kernel_rfl) (by decide) (by simp[Tryz.ntmps74]) ?_
 rw[Tryz.ntmps74]
 simp -implicitDefEqProofs only[↓reduceIte,go_sem,Nat.reduceAdd,Nat.reduceLT,Nat.reduceBEq,reduceCtorEq]
 refine aR (fun k s H'=>H'=H++[.arr 4 1 k (gU (dL (l.take k)))]∧s 0= .d (.list false (l.map aj.enc))∧s 4= .sl H.length k 0 k∧s 9= .d (.list false (l.map aj.enc))∧s 10=iA l.length∧s 11=iA k) l.length (by omega) (al.iT _ _ 4 4 1 (by decide) (by simp -implicitDefEqProofs only[↓reduceIte,go_sem,Nat.reduceLT,Nat.reduceEqDiff]) _) ?_ ?_ ?_
 ·refine⟨rfl,?_⟩
  simp -implicitDefEqProofs only[↓reduceIte,go_sem,Nat.reduceLT,Nat.reduceEqDiff,reduceCtorEq]
 ·rintro k s H' hk hw ⟨rfl,t0,t4,t9,t10,t11⟩
  have hx:(l.map aj.enc)[k]?=some [.v (.int .i64 l[k].kind),.v (.int .i64 l[k].i),.v (.string l[k].s)]:=by rw[List.getElem?_map,List.getElem?_eq_getElem hk];rfl
  have e1:=sv (l.take k) l[k]
  rw[←List.take_succ_eq_append_getElem hk]at e1
  have hml:(dL (l.take k)).length=k:=by rw[jB,List.length_take];omega
  rw[e1]
  generalize dL (l.take k)=B at*
  generalize l[k]=v at*
  generalize hdv:decide (v.kind=0)=dv at*
  simp -implicitDefEqProofs only[↓reduceIte,go_sem,ai,aq,Nat.reduceAdd,Nat.reduceLT,Nat.reduceLeDiff,Nat.reduceEqDiff,Nat.reduceBEq,t4,t9,t10,t11,hk,hx,hdv,oR,hml,tM]
  refine⟨by omega,by omega,?_⟩
  refine db.cut [.arr 4 1 (k+1) (gU (B++[dv]))] _ 1 rfl rfl (by simp -implicitDefEqProofs only[go_sem]) ?_
  refine⟨rfl,?_⟩
  simp -implicitDefEqProofs only[↓reduceIte,go_sem,Nat.reduceLT,Nat.reduceEqDiff,reduceCtorEq,t0,t9,t10,hw]
 ·rintro s H' ⟨rfl,t0,t4,t9,t10,t11⟩
  rw[List.take_length]
  simp -implicitDefEqProofs only[↓reduceIte,go_sem,Nat.reduceAdd,Nat.reduceLT,Nat.reduceBEq,reduceCtorEq,t0,t10,t11]
  refine ag.ok (yF l _) ?_
  simp -implicitDefEqProofs only[go_sem,Nat.reduceAdd]
  have hsq:=Bi l (H.length+2) (by omega)
  have hfl:(bP l).length≤l.length:=List.length_filter_le _ _
  unfold oK at hsq
  generalize bP l=L at*
  have hBl:(gU (dL l)).length≤l.length:=by rw[oR,jB];exact Nat.le_refl _
  generalize gU (dL l)=B at*
  refine je (fun _=>false) (fun k Hk=>Hk=H++[.arr 4 1 l.length B,.box 106 1 0 1 [.sl (H.length+3) k 0 k],lB l,.arr 69 3 k ((L.take k).map aj.enc)]) (fun _ _=>False) rfl rfl (al.dg _ _ (H.length+1) 106 1 0 1 [.d (.v (.slice none 0 0))] 0 _ 69 3 (by decide) (by simp -implicitDefEqProofs only[go_sem]) rfl rfl) (by simp -implicitDefEqProofs only[↓reduceIte,go_sem,Nat.reduceLT]) hsq ?_ ?_ ?_ ?_ ?_ (fun _ _ h=>h.elim)
  ·intro v hv
   obtain⟨u,_,rfl⟩:=List.mem_map.1 hv
   exact⟨rfl,fun w hw=>by rw[List.mem_singleton.1 hw];rfl⟩
  ·simp -implicitDefEqProofs only[go_sem,Nat.reduceAdd,List.take_zero]
  ·rintro k _ rfl
   exact⟨by simp -implicitDefEqProofs only[go_sem],by simp -implicitDefEqProofs only[go_sem,Nat.reduceAdd]⟩
  ·rintro k hk _ rfl
   rw[List.length_map]at hk
   have e1:(L.take (k+1)).map aj.enc=(L.take k).map aj.enc++[L[k].enc]:=by rw[List.take_succ_eq_append_getElem hk,List.map_append];rfl
   have hlen:((L.take k).map aj.enc).length=k:=by rw[List.length_map,List.length_take];omega
   rw[e1,List.getElem_map]
   generalize (L.take k).map aj.enc=E at*
   generalize L[k]=v at*
   simp -implicitDefEqProofs only[↓reduceIte,go_sem,ai,aq,Nat.reduceAdd,Nat.reduceLT,Nat.reduceLeDiff,Nat.reduceEqDiff,hlen]
   refine⟨by omega,by omega,?_⟩
   refine tu.cut [.arr 4 1 l.length B,.box 106 1 0 1 [.sl (H.length+3) (k+1) 0 (k+1)],lB l,.arr 69 3 (k+1) (E++[v.enc])] _ rfl rfl (by simp -implicitDefEqProofs only[go_sem,Nat.reduceAdd]) (by simp -implicitDefEqProofs only[go_sem,Nat.reduceAdd,Nat.reduceLT]) ?_
   rfl
  ·rintro _ rfl
   rw[List.length_map,List.take_length]
   simp -implicitDefEqProofs only[go_sem,Nat.reduceAdd,Nat.reduceBEq]
   refine ba K.mixed (by kernel_rfl) ?_
   simp -implicitDefEqProofs only[↓reduceIte,go_sem,ai,Nat.reduceLT,Nat.reduceEqDiff,t4]
   refine az.ret ?_
   simp -implicitDefEqProofs only[↓reduceIte,go_sem,Nat.reduceLT,Nat.reduceEqDiff,List.take_of_length_le (show(L.map aj.enc).length≤L.length by simp),List.take_of_length_le hBl]
structure Sg where
 kind:Int
 Ca:Int
 fV:Zn
 c4:List Bool
 body:List Nat
deriving DecidableEq
def Sg.cs(s:Sg):List AV:=[iA s.kind,iA s.Ca,iA s.fV.rows,iA s.fV.c4,iA s.fV.mn.kind,iA s.fV.mn.i,sA s.fV.mn.s,iA s.fV.mx.kind,iA s.fV.mx.i,sA s.fV.mx.s,.d (.list false (gU s.c4)),.d (.list false (di s.body))]
def Gu:Zn:=⟨0,0,⟨0,0,iF⟩,⟨0,0,iF⟩⟩
def Fy:Sg:=⟨0,0,Gu,[],[]⟩
def oy:List AV:=[iA 0,iA 0,iA 0,iA 0,iA 0,iA 0,sA iF,iA 0,iA 0,sA iF,.d (.v (.slice none 0 0)),.d (.v (.slice none 0 0))]
theorem qe:Sub (.agg oy) (.agg Fy.cs):=
 .agg (.cons (.refl _) (.cons (.refl _) (.cons (.refl _) (.cons (.refl _) (.cons (.refl _) (.cons (.refl _) (.cons (.refl _) (.cons (.refl _) (.cons (.refl _) (.cons (.refl _) (.cons .nil (.cons .nil .nil))))))))))))
def im(l:List aj)(k w:Int):Int:=if w=0 then sx (bP l) k else w
def pr(l:List aj):List Bool:=if(bP l).length=l.length then[]else dL l
def jx(l:List aj)(k w:Int):Sg×Int:=
 if aX (bP l) k≠0 then(Fy,aX (bP l) k)
 else if 4096<l.length then(Fy,2)
 else if(iw (bP l) k (im l k w)).2≠0 then(Fy,(iw (bP l) k (im l k w)).2)
 else(⟨k,im l k w,oF l,pr l,(iw (bP l) k (im l k w)).1⟩,0)
theorem yz(l:List aj)(k w:Int)(hok:∀v∈l,kC v.i)(hl:l.length≤1000000000)(H:aa):
  ae Tryz.prog 52 [.d (.list false (l.map aj.enc)),iA k,iA w] H (.ok (.a7 [.agg (jx l k w).1.cs,iA (jx l k w).2])) H:=by
 have hs:=fun H=>vj l hl H
 have hfl:(bP l).length≤l.length:=List.length_filter_le _ _
 have hok2:∀v∈bP l,kC v.i:=fun v hv=>hok v ((List.mem_filter.1 hv).1)
 have hc:=fun H=>cQ (bP l) k false H (by omega)
 have hbe:=fun H=>w9 (bP l) k hok2 (by omega) H
 have hbo:=fun H=>pw (bP l) k (im l k w) hok2 (by omega) H
 have hzo:=fun H=>yJ l false hl H
 unfold jx pr
 have hw0:w=0→im l k w=sx (bP l) k:=fun h=>if_pos h
 have hw1:w≠0→im l k w=w:=fun h=>if_neg h
 generalize im l k w=w' at*
 generalize sx (bP l) k=be at*
 generalize iw (bP l) k w'=bo at*
 obtain⟨bb,e⟩:=bo
 simp only at hbo⊢
 generalize oF l=z at*
 generalize aX (bP l) k=pe at*
 have hol:((dL l).length=l.length):=jB l
 generalize dL l=ns at*
 generalize bP l=L at*
 by_cases hpe:pe≠0
 ·rw[if_pos hpe]
  refine ae.jj (cs:=[.agg oy,iA pe]) ?_ (.cons qe (.cons (.refl _) .nil))
  refine ae.cr (hint:=fun _=>false) Tryz.func52 (by kernel_rfl) rfl [.cell 6 94,.tmp 7] (by kernel_rfl) (by simp[Tryz.ntmps52]) ?_
  rw[Tryz.ntmps52]
  simp -implicitDefEqProofs only[↓reduceIte,go_sem,Nat.reduceLT,reduceCtorEq]
  refine ag.ok (hs _) ?_
  simp -implicitDefEqProofs only[↓reduceIte,go_sem,Nat.reduceLT,Nat.reduceEqDiff]
  refine ag.ok (hc _) ?_
  simp -implicitDefEqProofs only[↓reduceIte,go_sem,aq,Nat.reduceAdd,Nat.reduceLT,Nat.reduceEqDiff,hpe]
  refine cI.ret ?_
  simp -implicitDefEqProofs only[↓reduceIte,go_sem,ai,Nat.reduceAdd,Nat.reduceLT,Nat.reduceLeDiff,Nat.reduceEqDiff,bE,cJ,oy,iF]
 rw[if_neg hpe]
 obtain rfl:pe=0:=by simpa using hpe
 by_cases h4:4096<l.length
 ·rw[if_pos h4]
  refine ae.jj (cs:=[.agg oy,iA 2]) ?_ (.cons qe (.cons (.refl _) .nil))
  refine ae.cr (hint:=fun _=>false) Tryz.func52 (by kernel_rfl) rfl [.cell 6 94,.tmp 7] (by kernel_rfl) (by simp[Tryz.ntmps52]) ?_
  rw[Tryz.ntmps52]
  simp -implicitDefEqProofs only[↓reduceIte,go_sem,Nat.reduceLT,reduceCtorEq]
  refine ag.ok (hs _) ?_
  simp -implicitDefEqProofs only[↓reduceIte,go_sem,Nat.reduceLT,Nat.reduceEqDiff]
  refine ag.ok (hc _) ?_
  simp -implicitDefEqProofs only[↓reduceIte,go_sem,aq,Nat.reduceAdd,Nat.reduceLT,Nat.reduceEqDiff,reduceCtorEq,List.length_map,show((4096:Int)<(l.length:Int))=True from eq_true (by omega)]
  refine cI.ret ?_
  simp -implicitDefEqProofs only[↓reduceIte,go_sem,ai,Nat.reduceAdd,Nat.reduceLT,Nat.reduceLeDiff,Nat.reduceEqDiff,bE,cJ,oy,iF]
 rw[if_neg h4]
 have h4f:((4096:Int)<(l.length:Int))=False:=eq_false (by omega)
 by_cases he:e≠0
 ·rw[if_pos he]
  refine ae.jj (cs:=[.agg oy,iA e]) ?_ (.cons qe (.cons (.refl _) .nil))
  by_cases hw:w=0
  ·obtain rfl:=hw0 hw
   refine ae.cr (hint:=fun _=>false) Tryz.func52 (by kernel_rfl) rfl [.cell 6 94,.tmp 7] (by kernel_rfl) (by simp[Tryz.ntmps52]) ?_
   rw[Tryz.ntmps52]
   simp -implicitDefEqProofs only[↓reduceIte,go_sem,Nat.reduceLT,reduceCtorEq]
   refine ag.ok (hs _) ?_
   simp -implicitDefEqProofs only[↓reduceIte,go_sem,Nat.reduceLT,Nat.reduceEqDiff]
   refine ag.ok (hc _) ?_
   simp -implicitDefEqProofs only[↓reduceIte,go_sem,Nat.reduceLT,Nat.reduceEqDiff,reduceCtorEq,List.length_map,h4f,hw]
   refine ag.ok (hbe _) ?_
   simp -implicitDefEqProofs only[↓reduceIte,go_sem,Nat.reduceLT,Nat.reduceEqDiff]
   refine ag.ok (hbo _) ?_
   simp -implicitDefEqProofs only[↓reduceIte,go_sem,aq,Nat.reduceAdd,Nat.reduceLT,Nat.reduceEqDiff,he]
   refine cI.ret ?_
   simp -implicitDefEqProofs only[↓reduceIte,go_sem,ai,Nat.reduceAdd,Nat.reduceLT,Nat.reduceLeDiff,Nat.reduceEqDiff,bE,cJ,oy,iF]
  ·obtain rfl:=hw1 hw
   refine ae.cr (hint:=fun _=>false) Tryz.func52 (by kernel_rfl) rfl [.cell 6 94,.tmp 7] (by kernel_rfl) (by simp[Tryz.ntmps52]) ?_
   rw[Tryz.ntmps52]
   simp -implicitDefEqProofs only[↓reduceIte,go_sem,Nat.reduceLT,reduceCtorEq]
   refine ag.ok (hs _) ?_
   simp -implicitDefEqProofs only[↓reduceIte,go_sem,Nat.reduceLT,Nat.reduceEqDiff]
   refine ag.ok (hc _) ?_
   simp -implicitDefEqProofs only[↓reduceIte,go_sem,Nat.reduceLT,Nat.reduceEqDiff,reduceCtorEq,List.length_map,h4f,hw]
   refine ag.ok (hbo _) ?_
   simp -implicitDefEqProofs only[↓reduceIte,go_sem,aq,Nat.reduceAdd,Nat.reduceLT,Nat.reduceEqDiff,he]
   refine cI.ret ?_
   simp -implicitDefEqProofs only[↓reduceIte,go_sem,ai,Nat.reduceAdd,Nat.reduceLT,Nat.reduceLeDiff,Nat.reduceEqDiff,bE,cJ,oy,iF]
 rw[if_neg he]
 obtain rfl:e=0:=by simpa using he
 by_cases hn:L.length=l.length
 ·have hnt:((L.length:Int)=(l.length:Int))=True:=eq_true (by omega)
  rw[if_pos hn]
  refine ae.jj (cs:=[.agg [iA k,iA w',iA z.rows,iA z.c4,iA z.mn.kind,iA z.mn.i,sA z.mn.s,iA z.mx.kind,iA z.mx.i,sA z.mx.s,.d (.v (.slice none 0 0)),.d (.list false (di bb))],iA 0]) ?_
   (.cons (.agg (.cons (.refl _) (.cons (.refl _) (.cons (.refl _) (.cons (.refl _) (.cons (.refl _) (.cons (.refl _) (.cons (.refl _) (.cons (.refl _) (.cons (.refl _) (.cons (.refl _) (.cons .nil (.cons (.refl _) .nil))))))))))))) (.cons (.refl _) .nil))
  by_cases hw:w=0
  ·obtain rfl:=hw0 hw
   refine ae.cr (hint:=fun _=>false) Tryz.func52 (by kernel_rfl) rfl [.cell 6 94,.tmp 7] (by kernel_rfl) (by simp[Tryz.ntmps52]) ?_
   rw[Tryz.ntmps52]
   simp -implicitDefEqProofs only[↓reduceIte,go_sem,Nat.reduceLT,reduceCtorEq]
   refine ag.ok (hs _) ?_
   simp -implicitDefEqProofs only[↓reduceIte,go_sem,Nat.reduceLT,Nat.reduceEqDiff]
   refine ag.ok (hc _) ?_
   simp -implicitDefEqProofs only[↓reduceIte,go_sem,Nat.reduceLT,Nat.reduceEqDiff,reduceCtorEq,List.length_map,h4f,hw]
   refine ag.ok (hbe _) ?_
   simp -implicitDefEqProofs only[↓reduceIte,go_sem,Nat.reduceLT,Nat.reduceEqDiff]
   refine ag.ok (hbo _) ?_
   simp -implicitDefEqProofs only[↓reduceIte,go_sem,Nat.reduceLT,Nat.reduceEqDiff,reduceCtorEq,List.length_map,hnt]
   refine ag.ok (hzo _) ?_
   simp -implicitDefEqProofs only[↓reduceIte,go_sem,aq,Nat.reduceAdd,Nat.reduceLT,Nat.reduceLeDiff,Nat.reduceEqDiff,Zn.cs]
   refine cI.ret ?_
   simp -implicitDefEqProofs only[↓reduceIte,go_sem,ai,Nat.reduceAdd,Nat.reduceLT,Nat.reduceLeDiff,Nat.reduceEqDiff,bE,cJ]
  ·obtain rfl:=hw1 hw
   refine ae.cr (hint:=fun _=>false) Tryz.func52 (by kernel_rfl) rfl [.cell 6 94,.tmp 7] (by kernel_rfl) (by simp[Tryz.ntmps52]) ?_
   rw[Tryz.ntmps52]
   simp -implicitDefEqProofs only[↓reduceIte,go_sem,Nat.reduceLT,reduceCtorEq]
   refine ag.ok (hs _) ?_
   simp -implicitDefEqProofs only[↓reduceIte,go_sem,Nat.reduceLT,Nat.reduceEqDiff]
   refine ag.ok (hc _) ?_
   simp -implicitDefEqProofs only[↓reduceIte,go_sem,Nat.reduceLT,Nat.reduceEqDiff,reduceCtorEq,List.length_map,h4f,hw]
   refine ag.ok (hbo _) ?_
   simp -implicitDefEqProofs only[↓reduceIte,go_sem,Nat.reduceLT,Nat.reduceEqDiff,reduceCtorEq,List.length_map,hnt]
   refine ag.ok (hzo _) ?_
   simp -implicitDefEqProofs only[↓reduceIte,go_sem,aq,Nat.reduceAdd,Nat.reduceLT,Nat.reduceLeDiff,Nat.reduceEqDiff,Zn.cs]
   refine cI.ret ?_
   simp -implicitDefEqProofs only[↓reduceIte,go_sem,ai,Nat.reduceAdd,Nat.reduceLT,Nat.reduceLeDiff,Nat.reduceEqDiff,bE,cJ]
 ·have hnt:((L.length:Int)=(l.length:Int))=False:=eq_false (by omega)
  rw[if_neg hn]
  by_cases hw:w=0
  ·obtain rfl:=hw0 hw
   refine ae.cr (hint:=fun _=>false) Tryz.func52 (by kernel_rfl) rfl [.cell 6 94,.tmp 7] (by kernel_rfl) (by simp[Tryz.ntmps52]) ?_
   rw[Tryz.ntmps52]
   simp -implicitDefEqProofs only[↓reduceIte,go_sem,Nat.reduceLT,reduceCtorEq]
   refine ag.ok (hs _) ?_
   simp -implicitDefEqProofs only[↓reduceIte,go_sem,Nat.reduceLT,Nat.reduceEqDiff]
   refine ag.ok (hc _) ?_
   simp -implicitDefEqProofs only[↓reduceIte,go_sem,Nat.reduceLT,Nat.reduceEqDiff,reduceCtorEq,List.length_map,h4f,hw]
   refine ag.ok (hbe _) ?_
   simp -implicitDefEqProofs only[↓reduceIte,go_sem,Nat.reduceLT,Nat.reduceEqDiff]
   refine ag.ok (hbo _) ?_
   simp -implicitDefEqProofs only[↓reduceIte,go_sem,Nat.reduceLT,Nat.reduceEqDiff,reduceCtorEq,List.length_map,hnt]
   refine ag.ok (hzo _) ?_
   simp -implicitDefEqProofs only[↓reduceIte,go_sem,aq,Nat.reduceAdd,Nat.reduceLT,Nat.reduceLeDiff,Nat.reduceEqDiff,Zn.cs]
   refine cI.ret ?_
   simp -implicitDefEqProofs only[↓reduceIte,go_sem,ai,Nat.reduceAdd,Nat.reduceLT,Nat.reduceLeDiff,Nat.reduceEqDiff,bE,cJ,Sg.cs]
  ·obtain rfl:=hw1 hw
   refine ae.cr (hint:=fun _=>false) Tryz.func52 (by kernel_rfl) rfl [.cell 6 94,.tmp 7] (by kernel_rfl) (by simp[Tryz.ntmps52]) ?_
   rw[Tryz.ntmps52]
   simp -implicitDefEqProofs only[↓reduceIte,go_sem,Nat.reduceLT,reduceCtorEq]
   refine ag.ok (hs _) ?_
   simp -implicitDefEqProofs only[↓reduceIte,go_sem,Nat.reduceLT,Nat.reduceEqDiff]
   refine ag.ok (hc _) ?_
   simp -implicitDefEqProofs only[↓reduceIte,go_sem,Nat.reduceLT,Nat.reduceEqDiff,reduceCtorEq,List.length_map,h4f,hw]
   refine ag.ok (hbo _) ?_
   simp -implicitDefEqProofs only[↓reduceIte,go_sem,Nat.reduceLT,Nat.reduceEqDiff,reduceCtorEq,List.length_map,hnt]
   refine ag.ok (hzo _) ?_
   simp -implicitDefEqProofs only[↓reduceIte,go_sem,aq,Nat.reduceAdd,Nat.reduceLT,Nat.reduceLeDiff,Nat.reduceEqDiff,Zn.cs]
   refine cI.ret ?_
   simp -implicitDefEqProofs only[↓reduceIte,go_sem,ai,Nat.reduceAdd,Nat.reduceLT,Nat.reduceLeDiff,Nat.reduceEqDiff,bE,cJ,Sg.cs]
def Sg.ds(s:Sg):List D:=[iD s.kind,iD s.Ca,iD s.fV.rows,iD s.fV.c4,iD s.fV.mn.kind,iD s.fV.mn.i,.v (.string s.fV.mn.s),iD s.fV.mx.kind,iD s.fV.mx.i,.v (.string s.fV.mx.s),.list false (gU s.c4),.list false (di s.body)]
structure Pj where
 bR:List Int
 key:List Int
 rows:Nat
 mG:List (List Sg)
deriving DecidableEq
def dr(S:List (List Sg)):List (List D):=S.map fun l=>[.list false (l.map Sg.ds)]
def Pj.ds(p:Pj):List D:=[.list false (ints p.bR),.list false (ints p.key),iD p.rows,.list false (dr p.mG)]
def Pj.av(p:Pj):AV:= .agg (p.ds.map .d)
def Fw:Pj:=⟨[],[],0,[]⟩
def eR:List AV:=[.d (.v (.slice none 0 0)),.d (.v (.slice none 0 0)),iA 0,.d (.v (.slice none 0 0))]
theorem qz:Sub (.agg eR) Fw.av:= .agg (.cons .nil (.cons .nil (.cons (.refl _) (.cons .nil .nil))))
def gZ(c:Int)(R:List (List aj)):List aj:=R.map fun r=>gl r c
def aY(Q:List (List aj))(ks:List Int)(w c:Int):List (Sg×Int):=(pH Q).map fun p=>jx (gZ c p) (ks.getD c.toNat 0) w
def jF(l:List Int):Int:=(l.find? fun e=>decide (e≠0)).getD 0
def q5(ks cs key:List Int):Prop:=cs.length=0∨8<key.length∨df cs ks.length=false∨df key ks.length=false∨¬cs.Nodup
instance (ks cs key:List Int):Decidable (q5 ks cs key):=by unfold q5;infer_instance
def iE(Q:List (List aj))(ks cs:List Int)(w:Int):Int:=jF (cs.flatMap fun c=>(aY Q ks w c).map (·.2))
def ed(Q:List (List aj))(ks cs:List Int)(w:Int):List (List Sg):=cs.map fun c=>(aY Q ks w c).map (·.1)
def fA(R:List (List aj))(ks cs key:List Int)(w:Int):Pj×Int:=
 if cF R ks≠0 then(Fw,cF R ks)
 else if q5 ks cs key then(Fw,1)
 else if iE (mC R key) ks cs w≠0 then(Fw,iE (mC R key) ks cs w)
 else(⟨cs,key,R.length,ed (mC R key) ks cs w⟩,0)
theorem ue{l m:List Int}{e:Int}(h:∀x∈l,x=0)(he:e≠0):jF (l++e::m)=e:=by
 unfold jF
 rw[List.find?_append,List.find?_eq_none.2 (fun x hx=>by simp[h x hx])]
 simp[he]
theorem rO{l:List Int}(h:∀x∈l,x=0):jF l=0:=by
 unfold jF
 rw[List.find?_eq_none.2 (fun x hx=>by simp[h x hx])]
 rfl
theorem jY(l:List Int)(H:aa)(hl:l.length≤1000000000000):ae Tryz.prog 45 [.d (.list true (ints l))] H (.ok (.d (.list false (ints l)))) H:=by
 refine ae.ak (hint:=(fun _=>false)) Tryz.func45 (by kernel_rfl) rfl [2] (by kernel_rfl) (by decide) (by simp[Tryz.ntmps45]) ?_
 rw[Tryz.ntmps45]
 simp -implicitDefEqProofs only[↓reduceIte,go_sem,Nat.reduceLT,Nat.reduceEqDiff,reduceCtorEq,np,aw]
 refine⟨by omega,by omega,az.ret ?_⟩
 simp -implicitDefEqProofs only[↓reduceIte,go_sem,Nat.reduceLT,cS,aw]
theorem lG(l:List Int)(n1:Bool)(H:aa)(hl:l.length≤1000000000000):ae Tryz.prog 45 [.d (.list n1 (ints l))] H (.ok (.d (.list false (ints l)))) H:=by
 cases n1 with
 |true=>exact jY l H hl
 |false=>
  cases l with
  |cons a l=>exact dk _ false H (by simp) hl
  |nil=>
   refine ae.m5 [] [] ?_ (jY [] H (by simp))
   have:=(ck H).GF .nil
   exact this
theorem r9(R:List (List aj))(ks cs key:List Int)(w:Int)(n0 n1 n2 n3:Bool)(H:aa)(hR:R.length≤1000000000)(hr:∀r∈R,r.length≤1000000000)(hk:ks.length≤100000000000000)(he:cF R ks≠0):
  ae Tryz.prog 26 [.d (.list n0 (bu R)),.d (.list n1 (ints ks)),.d (.list n2 (ints cs)),.d (.list n3 (ints key)),iA w] H (.ok (.a7 [.agg eR,iA (cF R ks)])) H:=by
 have hc:=fun H=>iQ R ks n0 n1 H (by omega) (fun r h=>by have:=hr r h;omega) (by omega)
 generalize cF R ks=e at*
 refine ae.cr (hint:=fun _=>false) Tryz.func26 (by kernel_rfl) rfl [.cell 10 49,.cell 11 62] (by kernel_rfl) (by simp[Tryz.ntmps26]) ?_
 rw[Tryz.ntmps26]
 simp -implicitDefEqProofs only[↓reduceIte,go_sem,ai,Nat.reduceAdd,Nat.reduceLT,Nat.reduceEqDiff,reduceCtorEq]
 refine ag.ok (hc _) ?_
 simp -implicitDefEqProofs only[↓reduceIte,go_sem,aq,Nat.reduceAdd,Nat.reduceLT,Nat.reduceEqDiff,he]
 refine cI.ret ?_
 simp -implicitDefEqProofs only[↓reduceIte,go_sem,ai,Nat.reduceAdd,Nat.reduceLT,Nat.reduceLeDiff,Nat.reduceEqDiff,reduceCtorEq,bE,cJ,eR]
theorem sT(R:List (List aj))(ks cs key:List Int)(w:Int)(n0 n1 n2 n3:Bool)(H:aa)(hR:R.length≤1000000000)(hr:∀r∈R,r.length≤1000000000)(hk:ks.length≤1000000000)(hcl:cs.length≤1000000000)(hkl:key.length≤1000000000)(he:cF R ks=0)(hb:q5 ks cs key):
  ae Tryz.prog 26 [.d (.list n0 (bu R)),.d (.list n1 (ints ks)),.d (.list n2 (ints cs)),.d (.list n3 (ints key)),iA w] H (.ok (.a7 [.agg eR,iA 1])) H:=by
 have hc:=fun H=>iQ R ks n0 n1 H (by omega) (fun r h=>by have:=hr r h;omega) (by omega)
 have hw1:=fun H=>fx cs n2 ks.length H (by omega)
 have hw2:=fun H=>fx key n3 ks.length H (by omega)
 have ho:=fun H=>CI.pn n2 cs H hcl
 unfold q5 at hb
 generalize df cs ks.length=b1 at*
 generalize df key ks.length=b2 at*
 have hcn:decide cs.Nodup=false↔¬cs.Nodup:=by simp
 rw[←hcn]at hb
 generalize decide cs.Nodup=b3 at*
 rw[he]at hc
 refine ae.cr (hint:=fun _=>false) Tryz.func26 (by kernel_rfl) rfl [.cell 10 49,.cell 11 62] (by kernel_rfl) (by simp[Tryz.ntmps26]) ?_
 rw[Tryz.ntmps26]
 simp -implicitDefEqProofs only[↓reduceIte,go_sem,ai,Nat.reduceAdd,Nat.reduceLT,Nat.reduceEqDiff,reduceCtorEq]
 refine ag.ok (hc _) ?_
 by_cases h1:cs.length=0
 case' pos=>simp -implicitDefEqProofs only[↓reduceIte,go_sem,aq,Nat.reduceAdd,Nat.reduceLT,Nat.reduceEqDiff,aw,h1]
 case' neg=>
  by_cases h2:8<key.length
  case' pos=>simp -implicitDefEqProofs only[↓reduceIte,go_sem,aq,Nat.reduceAdd,Nat.reduceLT,Nat.reduceEqDiff,reduceCtorEq,aw,show ¬((cs.length:Int)=0) by omega,show(8:Int)<key.length by omega]
  case' neg=>
   simp -implicitDefEqProofs only[↓reduceIte,go_sem,ai,Nat.reduceLT,Nat.reduceEqDiff,reduceCtorEq,aw,show ¬((cs.length:Int)=0) by omega,show ¬(8:Int)<key.length by omega]
   refine ag.ok (hw1 _) ?_
   cases b1
   case' false=>simp -implicitDefEqProofs only[↓reduceIte,go_sem,aq,Nat.reduceAdd,Nat.reduceLT,Nat.reduceEqDiff,reduceCtorEq]
   case' true=>
    simp -implicitDefEqProofs only[↓reduceIte,go_sem,ai,Nat.reduceLT,Nat.reduceEqDiff,reduceCtorEq,aw]
    refine ag.ok (hw2 _) ?_
    cases b2
    case' false=>simp -implicitDefEqProofs only[↓reduceIte,go_sem,aq,Nat.reduceAdd,Nat.reduceLT,Nat.reduceEqDiff,reduceCtorEq]
    case' true=>
     simp -implicitDefEqProofs only[↓reduceIte,go_sem,Nat.reduceLT,Nat.reduceEqDiff,reduceCtorEq]
     refine ag.ok (ho _) ?_
     cases b3
     case' false=>simp -implicitDefEqProofs only[↓reduceIte,go_sem,aq,Nat.reduceAdd,Nat.reduceLT,Nat.reduceEqDiff,reduceCtorEq]
     case true=>rcases hb with h|h|h|h|h<;>first|exact absurd h h1|exact absurd h h2|cases h
 all_goals
  refine cI.ret ?_
  simp -implicitDefEqProofs only[↓reduceIte,go_sem,ai,Nat.reduceAdd,Nat.reduceLT,Nat.reduceLeDiff,Nat.reduceEqDiff,reduceCtorEq,bE,cJ,eR]
end Go.Proofs.YtfklokhopcmloaaGreat
namespace Go.Proofs.YtfklokhopcmloaaGreatAw
open Go.RowKit
section
variable (P:Program) (hint:Nat→Bool) (n:Nat) (ops:Array Oper) (a p:Nat) (bx:aA) (B:aa)
def eA(o:Oper)(H:aa):Prop:=∃e z k b e',o.op= .alloc e∧o.guard=none∧TI P e=some (z,k,b)∧(0<k∧z.cells.size=k∧z.cells.all Value.oneCell'=true)∧hintOf hint o.dst=true∧bx= .box e k 1 1 (bh z.cells)∧H[p]?=some (.arr e' k 0 [])
def aS(Q:aJ):Nat→List (Option Bool)→List Oper→(Nat→AV)→aa→Prop
 |_,[],l,s,H=>aG P hint n ops Q l s H
 |_,_::_,[],s,H=>aG P hint n ops Q [] s H
 |i,b::bs,o::rest,s,H=>if i=a then eA P hint p bx o H∧aS Q (i+1) bs rest (aZ n s o.dst (.ptr p 1 0 0)) (H.set p bx)else match b with
  |some false=>b9 P hint n ops (fun _ _ _=>False) o (fun s' H'=>H'=H∧aS Q (i+1) bs rest s' H') s H
  |none=>b9 P hint n ops (fun _ _ _=>False) o (fun s' H'=>H'=B∧aS Q (i+1) bs rest s' H) s B
  |some true=>o.guard=none∧(if i<a then ay P hint s H o (fun r H'=>ay P hint s (H.set p bx) o (fun r' H''=>r'=r∧H''=H'.set p bx∧H'[p]?=H[p]?∧Ext B H'∧aS Q (i+1) bs rest (aZ n s o.dst r) H') (fun _ _=>False)) (fun _ _=>False)
    else ay P hint s H o (fun r H'=>Ext B H'∧aS Q (i+1) bs rest (aZ n s o.dst r) H') (fun _ _=>False))
end
section
variable {P:Program} {hint:Nat→Bool} {n:Nat} {ops:Array Oper} {Q:aJ} {a p:Nat} {bx:aA} {B:aa}
def rY(P:Program)(hint:Nat→Bool)(n:Nat)(ops:Array Oper)(a p:Nat)(bx:aA)(B:aa)(b:Option Bool)(i:Nat)(o:Oper)(s:Nat→AV)(r:AV)(H H':aa):Prop:=
 if i=a then eA P hint p bx o H∧r= .ptr p 1 0 0∧H'=H.set p bx else match b with
 |some false=>bC P hint n ops H s o r H∧H'=H
 |none=>bC P hint n ops B s o r B∧H'=H
 |some true=>bC P hint n ops H s o r H'∧Ext B H'∧(i<a→bC P hint n ops (H.set p bx) s o r (H'.set p bx)∧H'[p]?=H[p]?)
theorem gB{H H':aa}{s:Nat→AV}{o:Oper}{r:AV}(hg:o.guard=none)(h:∀K KP,K r H'→ay P hint s H o K KP):bC P hint n ops H s o r H':=by
 unfold bC
 rw[hg]
 exact h
theorem jr(hdt:∀(i:Nat) (o:Oper),ops[i]?=some o→ig hint o.op=true)(s0:Nat→AV):∀(bs:List (Option Bool)) (k:Nat) (rs0:Nat→AV) (hp0:Nat→aa),k+bs.length≤ops.size→aS P hint n ops a p bx B Q k bs (ops.toList.drop k) (aU n ops s0 rs0 k) (hp0 k)→
  ∃(rs:Nat→AV) (hp:Nat→aa),(∀i,i<k→rs i=rs0 i)∧(∀i,i≤k→hp i=hp0 i)∧
   (∀i o b,k≤i→i<k+bs.length→ops[i]?=some o→bs[i-k]?=some b→rY P hint n ops a p bx B b i o (aU n ops s0 rs i) (rs i) (hp i) (hp (i+1)))∧
   aG P hint n ops Q (ops.toList.drop (k+bs.length)) (aU n ops s0 rs (k+bs.length)) (hp (k+bs.length))
 |[],k,rs0,hp0,hk,h=>⟨rs0,hp0,fun _ _=>rfl,fun _ _=>rfl,fun i o b h1 h2=>by simp at h2;omega,by
   have h:aG P hint n ops Q (ops.toList.drop k) (aU n ops s0 rs0 k) (hp0 k):=by
    cases hd:ops.toList.drop k<;>(rw[hd]at h;exact h)
   exact h⟩
 |b::bs,k,rs0,hp0,hk,h=>by
  simp only[List.length_cons]at hk
  have hlt:k<ops.size:=by omega
  have hget:ops[k]?=some ops[k]:=by simp[hlt]
  have hd:ops.toList.drop k=ops[k]::ops.toList.drop (k+1):=by
   rw[List.drop_eq_getElem_cons (by simpa using hlt)];simp
  rw[hd]at h
  have hdst:aP ops k=(ops[k]).dst:=by simp[aP,hget]
  have step:∃r H',rY P hint n ops a p bx B b k ops[k] (aU n ops s0 rs0 k) r (hp0 k) H'∧aS P hint n ops a p bx B Q (k+1) bs (ops.toList.drop (k+1)) (aZ n (aU n ops s0 rs0 k) (ops[k]).dst r) H':=by
   unfold rY
   unfold aS at h
   by_cases hka:k=a
   ·rw[if_pos hka]at h
    refine⟨.ptr p 1 0 0,(hp0 k).set p bx,?_,h.2⟩
    rw[if_pos hka]
    exact⟨h.1,rfl,rfl⟩
   ·rw[if_neg hka]at h
    simp only[if_neg hka]
    match b,h with
    |some false,h=>
     obtain⟨r,H',h1,rfl,h3⟩:=gM (hdt k _ hget) h
     exact⟨r,_,⟨h1,rfl⟩,h3⟩
    |none,h=>
     obtain⟨r,H',h1,rfl,h3⟩:=gM (hdt k _ hget) h
     exact⟨r,_,⟨h1,rfl⟩,h3⟩
    |some true,⟨hg,h⟩=>
     by_cases hlta:k<a
     ·rw[if_pos hlta]at h
      obtain⟨r,H',h1,h2⟩:=dP (hdt k _ hget) h
      obtain⟨r',H'',⟨rfl,rfl,h3,h4,h5⟩,h6⟩:=dP (hdt k _ hget) h1
      exact⟨r',H',⟨gB hg h2,h4,fun _=>⟨gB hg h6,h3⟩⟩,h5⟩
     ·rw[if_neg hlta]at h
      obtain⟨r,H',⟨h1,h3⟩,h2⟩:=dP (hdt k _ hget) h
      exact⟨r,H',⟨gB hg h2,h1,fun hh=>absurd hh hlta⟩,h3⟩
  obtain⟨r,H',h1,h4⟩:=step
  let rs1:Nat→AV:=fun i=>if i=k then r else rs0 i
  let hp1:Nat→aa:=fun i=>if i=k+1 then H' else hp0 i
  have e1:rs1 k=r:=if_pos rfl
  have e2:hp1 (k+1)=H':=if_pos rfl
  have hst:∀(rs:Nat→AV) i,i≤k→(∀j,j<i→rs j=rs0 j)→aU n ops s0 rs i=aU n ops s0 rs0 i:=by
   intro rs i
   induction i with
   |zero=>intros;rfl
   |succ i ih=>
    intro hi hr
    simp only[aU,ih (by omega) fun j hj=>hr j (by omega),hr i (by omega)]
  have h5:aS P hint n ops a p bx B Q (k+1) bs (ops.toList.drop (k+1)) (aU n ops s0 rs1 (k+1)) (hp1 (k+1)):=by
   rw[e2]
   simp only[aU,e1,hdst]
   rw[hst rs1 k (Nat.le_refl _) fun j hj=>if_neg (by omega)]
   exact h4
  obtain⟨rs,hp,g1,g2,g3,g4⟩:=jr hdt s0 bs (k+1) rs1 hp1 (by omega) h5
  have f1:∀i,i<k→rs i=rs0 i:=fun i hi=>by rw[g1 i (by omega)];exact if_neg (by omega)
  have f2:∀i,i≤k→hp i=hp0 i:=fun i hi=>by rw[g2 i (by omega)];exact if_neg (by omega)
  have f3:rs k=r:=by rw[g1 k (by omega)];exact e1
  have f4:hp (k+1)=H':=by rw[g2 (k+1) (by omega)];exact e2
  refine⟨rs,hp,f1,f2,fun i o b' hi hi2 ho hb=>?_,by rw[List.length_cons,show k+(bs.length+1)=k+1+bs.length from by omega];exact g4⟩
  rcases Nat.lt_or_ge k i with hki|hki
  ·refine g3 i o b' hki (by simp only[List.length_cons]at hi2;omega) ho ?_
   rwa[show i-k=(i-(k+1))+1 from by omega,List.getElem?_cons_succ]at hb
  ·obtain rfl:i=k:=by omega
   rw[hget]at ho
   cases ho
   rw[Nat.sub_self,List.getElem?_cons_zero]at hb
   cases hb
   rw[f2 i (Nat.le_refl _),f3,f4,hst rs i (Nat.le_refl _) fun j hj=>f1 j hj]
   exact h1
theorem eA.step{o:Oper}{H:aa}{s:Nat→AV}(h:eA P hint p bx o H):bC P hint n ops H s o (.ptr p 1 0 0) (H.set p bx):=by
 obtain⟨e,z,k,b,e',h1,h2,h3,h4,h5,h6,h7⟩:=h
 refine gB h2 fun K KP hk=>?_
 obtain⟨d,op,ty,ps,af,g⟩:=o
 simp only at h1 h2 h5
 subst h1 h2
 rw[rD,h3]
 refine⟨by rw[mb h3];exact h4,?_⟩
 rw[h5]
 exact⟨p,e',h7,by rw[←h6];exact hk⟩
end
def px(hint:Nat→Bool)(ops:Array Oper)(bs:List (Option Bool))(a:Nat):Bool:=decide (a<bs.length)&&(List.range bs.length).all fun i=>i==a||match bs[i]?,ops[i]? with
 |some (some false),some o=>gD hint false o
 |some none,some o=>gD hint true o
 |some (some true),some _=>(decide (i<a)||bN ops 12 i a)&&(List.range i).all fun c=>c==a||bs[c]?==some (some false)||bs[c]?==some none||bN ops 12 i c
 |_,_=>false
section
variable {P:Program} {hint:Nat→Bool} {n:Nat} {ops:Array Oper} {Q:aJ}
theorem pg(bs:List (Option Bool))(a p:Nat)(bx:aA)(B:aa){H0 H:aa}{id:Nat}{s:Nat→AV}(hm:P.follows .mixedOrders=true)(hc:cY hint ops=true)(ht:cT ops bs.length=true)(hx:px hint ops bs a=true)(hB:Ext B H)(hBp:∀o,B[p]?=some o→o.live=false)
  (h:aS P hint n ops a p bx B Q 0 bs ops.toList s H):b5 P hint n H0 (.region id ops true) Q s H:=by
 obtain⟨hms,htl⟩:=dM ht
 refine⟨hm,?_⟩
 obtain⟨rs,w,_,g2,g3,g4⟩:=jr (bM hc).Eh s bs 0 (fun _=> .top) (fun _=>H) (by omega) h
 have g20:w 0=H:=g2 0 (Nat.le_refl _)
 simp only[Nat.zero_add,Nat.sub_zero,Nat.zero_le,true_implies]at g3 g4
 unfold px at hx
 rw[Bool.and_eq_true,List.all_eq_true]at hx
 obtain⟨ha,hx⟩:=hx
 have ha:a<bs.length:=by simpa using ha
 have hget:∀i,i<bs.length→∃o,ops[i]?=some o:=fun i hi=>⟨ops[i]'(by omega),by simp[show i<ops.size by omega]⟩
 have hbs:∀i (hi:i<bs.length),bs[i]?=some bs[i]:=fun i hi=>List.getElem?_eq_getElem hi
 let T:Nat→Bool:=fun i=>i !=a&&bs[i]?==some (some true)
 have TT:∀i,T i=true→i≠a∧bs[i]?=some (some true):=fun i h=>by
  have h:(i !=a&&bs[i]?==some (some true))=true:=h
  simpa using h
 have TF:∀i,i<bs.length→i≠a→T i=false→bs[i]?=some (some false)∨bs[i]?=some none:=fun i hi hia h=>by
  have h:(i !=a&&bs[i]?==some (some true))=false:=h
  rw[hbs i hi]at h⊢
  rcases hb:bs[i]with _|_|_
  ·exact .inr rfl
  ·exact .inl rfl
  ·rw[hb]at h;simp[hia]at h
 have say:∀i o,i<bs.length→ops[i]?=some o→rY P hint n ops a p bx B bs[i]! i o (aU n ops s rs i) (rs i) (w i) (w (i+1)):=fun i o hi ho=>g3 i o _ hi ho (by rw[hbs i hi];simp[hi])
 have sayT:∀i o,i<bs.length→ops[i]?=some o→T i=true→bC P hint n ops (w i) (aU n ops s rs i) o (rs i) (w (i+1))∧Ext B (w (i+1))∧(i<a→bC P hint n ops ((w i).set p bx) (aU n ops s rs i) o (rs i) ((w (i+1)).set p bx)∧(w (i+1))[p]?=(w i)[p]?):=by
  intro i o hi ho hT
  obtain⟨h1,h2⟩:=TT i hT
  have:=g3 i o _ hi ho h2
  unfold rY at this
  rwa[if_neg h1]at this
 have sayF:∀i o,i<bs.length→ops[i]?=some o→bs[i]?=some (some false)→i≠a→bC P hint n ops (w i) (aU n ops s rs i) o (rs i) (w i)∧w (i+1)=w i:=by
  intro i o hi ho h2 h1
  have:=g3 i o _ hi ho h2
  unfold rY at this
  rwa[if_neg h1]at this
 have sayN:∀i o,i<bs.length→ops[i]?=some o→bs[i]?=some none→i≠a→bC P hint n ops B (aU n ops s rs i) o (rs i) B∧w (i+1)=w i:=by
  intro i o hi ho h2 h1
  have:=g3 i o _ hi ho h2
  unfold rY at this
  rwa[if_neg h1]at this
 obtain⟨oa,hoa⟩:=hget a ha
 have sayA:eA P hint p bx oa (w a)∧rs a= .ptr p 1 0 0∧w (a+1)=(w a).set p bx:=by
  have:=g3 a oa _ ha hoa (hbs a ha)
  unfold rY at this
  rwa[if_pos rfl]at this
 have stay:∀i,i<bs.length→i≠a→T i=false→w (i+1)=w i:=by
  intro i hi hia hT
  obtain⟨o,ho⟩:=hget i hi
  rcases TF i hi hia hT with h|h
  ·exact(sayF i o hi ho h hia).2
  ·exact(sayN i o hi ho h hia).2
 have hext:∀j,j≤bs.length→Ext B (w j)∧Ext B ((w j).set p bx):=by
  have key:∀H:aa,Ext B H→Ext B (H.set p bx):=fun H hE i o ho hl=>by
   by_cases e:i=p
   ·subst e;rw[hBp o ho]at hl;cases hl
   ·rw[List.getElem?_set_ne (Ne.symm e)];exact hE i o ho hl
  intro j
  induction j with
  |zero=>intro _;rw[g20];exact⟨hB,key _ hB⟩
  |succ j ih=>
   intro hj
   obtain⟨o,ho⟩:=hget j (by omega)
   by_cases hja:j=a
   ·subst hja
    rw[sayA.2.2]
    exact⟨(ih (by omega)).2,key _ (ih (by omega)).2⟩
   ·cases hT:T j with
    |true=>have:=(sayT j o (by omega) ho hT).2.1;exact⟨this,key _ this⟩
    |false=>rw[stay j (by omega) hja hT];exact ih (by omega)
 let u:Nat→aa:=fun i=>if i≤a then(w i).set p bx else w i
 have u1:∀i,i≤a→u i=(w i).set p bx:=fun i hi=>if_pos hi
 have u2:∀i,a<i→u i=w i:=fun i hi=>if_neg (by omega)
 have ustay:∀i,i<bs.length→T i=false→u (i+1)=u i:=by
  intro i hi hT
  rcases Nat.lt_trichotomy i a with h|h|h
  ·rw[u1 i (by omega),u1 (i+1) (by omega),stay i hi (by omega) hT]
  ·subst h;rw[u1 i (Nat.le_refl _),u2 (i+1) (by omega),sayA.2.2]
  ·rw[u2 i h,u2 (i+1) (by omega),stay i hi (by omega) hT]
 have chain:∀(f:Nat→aa) (N:Nat),(∀i,i<N→T i=false→f (i+1)=f i)→∀q i,q≤N→i≤N→(∀c,c<N→T c=true→(c<q↔c<i))→f q=f i:=by
  intro f N hf
  have up:∀d q,q+d≤N→(∀c,c<N→T c=true→(c<q↔c<q+d))→f (q+d)=f q:=by
   intro d
   induction d with
   |zero=>intros;rfl
   |succ d ihd=>
    intro q hq hcc
    have h1:T (q+d)=false:=by
     cases h:T (q+d)with
     |false=>rfl
     |true=>have:=(hcc (q+d) (by omega) h).2 (by omega);omega
    rw[←Nat.add_assoc,hf (q+d) (by omega) h1]
    exact ihd q (by omega) fun c hcm hct=>⟨fun h=>by omega,fun h=>(hcc c hcm hct).2 (by omega)⟩
  intro q i hq hi hcc
  rcases Nat.le_total q i with h|h
  ·obtain⟨d,rfl⟩:=Nat.exists_eq_add_of_le h
   exact(up d q hi hcc).symm
  ·obtain⟨d,rfl⟩:=Nat.exists_eq_add_of_le h
   exact up d i hq fun c hcm hct=>(hcc c hcm hct).symm
 have hsu:=chain u bs.length ustay
 have hsw:=chain w a fun i hi hT=>stay i (by omega) (by omega) hT
 have hole:∀j,j≤a→(w j)[p]?=(w 0)[p]?:=by
  intro j
  induction j with
  |zero=>intro _;rfl
  |succ j ih=>
   intro hj
   obtain⟨o,ho⟩:=hget j (by omega)
   cases hT:T j with
   |true=>rw[((sayT j o (by omega) ho hT).2.2 (by omega)).2];exact ih (by omega)
   |false=>rw[stay j (by omega) (by omega) hT];exact ih (by omega)
 have chk:∀i o,i<bs.length→ops[i]?=some o→T i=true→(i<a∨bN ops 12 i a=true)∧∀c,c<i→T c=true→bN ops 12 i c=true:=by
  intro i o hi ho hT
  obtain⟨h1,h2⟩:=TT i hT
  have:=hx i (List.mem_range.2 hi)
  rw[h2,ho]at this
  simp only[Bool.or_eq_true,beq_iff_eq,h1,false_or,Bool.and_eq_true,decide_eq_true_eq,List.all_eq_true]at this
  refine⟨this.1,fun c hci hct=>?_⟩
  obtain⟨h3,h4⟩:=TT c hct
  have:=this.2 c (List.mem_range.2 hci)
  rw[h4]at this
  simpa[h3]using this
 refine mP (bM hc) bs.length hms htl s rs (fun L G=>∃q,q≤bs.length∧(∀c,c<bs.length→T c=true→(L c=true↔c<q))∧((L a=true∧G=u q)∨(L a=false∧q≤a∧G=w q))) ?_ ?_ ?_ ops.size (Array.replicate ops.size false) s H (by simp) ?_ ?_ ?_ ?_ ?_ ⟨0,Nat.zero_le _,fun c hcm hct=>?_,.inr ⟨?_,Nat.zero_le _,g20.symm⟩⟩
 ·rintro L L' G hL ⟨q,h1,h2,h3⟩
  exact⟨q,h1,fun c hcm hct=>by rw[←hL c hcm];exact h2 c hcm hct,by rw[←hL a ha];exact h3⟩
 ·rintro L G i o ⟨q,hqm,hql,hG⟩ him hgo hun hcl hbi
  have hnew:∀c,c≠i→(if c=i then true else L c)=L c:=fun c hc=>if_neg hc
  by_cases hia:i=a
  ·subst hia
   rcases hG with⟨hL,_⟩|⟨_,hqa,rfl⟩
   ·rw[hL]at hun;cases hun
   have e:o=oa:=Option.some.inj (hgo.symm.trans hoa)
   subst e
   obtain⟨e,z,k,b,e',k1,k2,k3,k4,k5,k6,k7⟩:=sayA.1
   have hA:eA P hint p bx o (w q):=⟨e,z,k,b,e',k1,k2,k3,k4,k5,k6,by rw[hole q hqa,←hole i (Nat.le_refl _)];exact k7⟩
   refine⟨_,by rw[sayA.2.1];exact hA.step,q,hqm,fun c hcm hct=>?_,.inl ⟨by simp,(u1 q hqa).symm⟩⟩
   show(if c=i then true else L c)=true↔c<q
   rw[hnew c (TT c hct).1]
   exact hql c hcm hct
  ·have hLa:(if a=i then true else L a)=L a:=if_neg (Ne.symm hia)
   cases hT:T i with
   |false=>
    have hS:bC P hint n ops G (aU n ops s rs i) o (rs i) G:=by
     have hfl:=hx i (List.mem_range.2 him)
     have hEx:Ext B G:=by
      rcases hG with⟨_,rfl⟩|⟨_,_,rfl⟩
      ·rcases Nat.lt_or_ge a q with h|h
       ·rw[u2 q h];exact(hext q hqm).1
       ·rw[u1 q h];exact(hext q hqm).2
      ·exact(hext q hqm).1
     rcases TF i him hia hT with hk|hk
     ·rw[hk,hgo]at hfl
      simp only[Bool.or_eq_true,beq_iff_eq,hia,false_or]at hfl
      exact cU hfl (fun hf=>by cases hf) (sayF i o him hgo hk hia).1
     ·rw[hk,hgo]at hfl
      simp only[Bool.or_eq_true,beq_iff_eq,hia,false_or]at hfl
      exact cU (first:=true) hfl (fun _=>hEx) (sayN i o him hgo hk hia).1
    refine⟨G,hS,q,hqm,fun c hcm hct=>?_,by simp only[hLa];exact hG⟩
    show(if c=i then true else L c)=true↔c<q
    rw[hnew c (by intro e;rw[e,hT]at hct;cases hct)]
    exact hql c hcm hct
   |true=>
    obtain⟨hra,hrc⟩:=chk i o him hgo hT
    have breach:∀c o',ops[c]?=some o'→(∀j,aI o' j=true→L j=true)→∀i',bN ops 12 c i'=true→L i'=true:=fun c o' hoc hb i' hr=>dW hcl 12 c o' hoc hb i' hr
    have hbef:∀c,c<bs.length→T c=true→(L c=true↔c<i):=by
     intro c hcm hct
     refine⟨fun hl=>?_,fun hlt=>breach i o hgo hbi c (hrc c hlt hct)⟩
     rcases Nat.lt_trichotomy c i with h|h|h
     ·exact h
     ·subst h;rw[hun]at hl;cases hl
     ·exfalso
      obtain⟨oc,hgc⟩:=hget c hcm
      have:=breach c oc hgc (fun j hj=>hcl c oc j hgc hl hj) i ((chk c oc hcm hgc hct).2 i h hT)
      rw[hun]at this
      cases this
    have heq:∀c,c<bs.length→T c=true→(c<q↔c<i):=fun c hcm hct=>(hql c hcm hct).symm.trans (hbef c hcm hct)
    have hq':∀c,c<bs.length→T c=true→((if c=i then true else L c)=true↔c<i+1):=fun c hcm hct=>by
     by_cases e:c=i
     ·subst e;simp
     ·rw[if_neg e]
      exact(hbef c hcm hct).trans ⟨fun h=>by omega,fun h=>by omega⟩
    obtain⟨s1,_,s3⟩:=sayT i o him hgo hT
    rcases hG with⟨hL,rfl⟩|⟨hL,hqa,rfl⟩
    ·have hu:=hsu q i hqm (by omega) heq
     rw[hu]
     rcases Nat.lt_or_ge i a with h|h
     ·refine⟨u (i+1),by rw[u1 i (by omega),u1 (i+1) (by omega)];exact(s3 h).1,i+1,by omega,hq',.inl ⟨by show(if a=i then true else L a)=true;rw[hLa];exact hL,rfl⟩⟩
     ·refine⟨u (i+1),by rw[u2 i (by omega),u2 (i+1) (by omega)];exact s1,i+1,by omega,hq',.inl ⟨by show(if a=i then true else L a)=true;rw[hLa];exact hL,rfl⟩⟩
    ·have hilt:i<a:=by
      rcases hra with h|h
      ·exact h
      ·have:=breach i o hgo hbi a h
       rw[hL]at this;cases this
     have hw:=hsw q i hqa (by omega) fun c hcm hct=>heq c (by omega) hct
     rw[hw]
     exact⟨_,s1,i+1,by omega,hq',.inr ⟨by show(if a=i then true else L a)=false;rw[hLa];exact hL,by omega,rfl⟩⟩
 ·rintro L G hall ⟨q,hqm,hql,hG⟩
  rcases hG with⟨_,rfl⟩|⟨hL,_⟩
  ·rw[hsu q bs.length hqm (Nat.le_refl _) fun c hcm hct=>⟨fun _=>hcm,fun _=>(hql c hcm hct).1 (hall c hcm)⟩,u2 _ ha]
   exact g4
  ·rw[hall a ha]at hL;cases hL
 ·exact Nat.le_trans List.countP_le_length (by simp)
 ·intro t j hj
  have hjl:=dc hj
  rw[if_neg (by simp[Array.getD,hjl])]
 ·intro t _;rfl
 ·intro j oj i hoj hl
  have hjl:=(Array.getElem?_eq_some_iff.1 hoj).1
  simp[Array.getD,hjl]at hl
 ·intro i hi hi2
  simp[Array.getD,hi2]
 ·have:c<ops.size:=by omega
  simp[Array.getD,this]
 ·simp[Array.getD,show a<ops.size by omega]
end
section
variable (P:Program) (hint:Nat→Bool) (n:Nat) (ops:Array Oper) (a p:Nat) (bx:aA) (B:aa) (Q:aJ) (i:Nat) (bs:List (Option Bool)) (rest:List Oper) (s:Nat→AV) (H:aa)
def qN(d:Option Tmp)(H0:aa):AV→aa→Prop:=fun r H'=>H'=B∧aS P hint n ops a p bx B Q (i+1) bs rest (aZ n s d r) H0
def qk(d:Option Tmp)(H0:aa):AV→aa→Prop:=fun r H'=>H'=H0∧aS P hint n ops a p bx B Q (i+1) bs rest (aZ n s d r) H'
def kU(d:Option Tmp)(H0:aa)(r:AV)(H':aa):AV→aa→Prop:=fun r' H''=>r'=r∧H''=H'.set p bx∧H'[p]?=H0[p]?∧Ext B H'∧aS P hint n ops a p bx B Q (i+1) bs rest (aZ n s d r) H'
def kY(o:Oper)(H0:aa):AV→aa→Prop:=fun r H'=>if i<a then ay P hint s (H0.set p bx) o (kU P hint n ops a p bx B Q i bs rest s o.dst H0 r H') yM else Ext B H'∧aS P hint n ops a p bx B Q (i+1) bs rest (aZ n s o.dst r) H'
theorem yE(d:Option Tmp)(H0:aa)(r:AV):qN P hint n ops a p bx B Q i bs rest s d H0 r H=(H=B∧aS P hint n ops a p bx B Q (i+1) bs rest (aZ n s d r) H0):=rfl
theorem yx(d:Option Tmp)(H0:aa)(r:AV):qk P hint n ops a p bx B Q i bs rest s d H0 r H=(H=H0∧aS P hint n ops a p bx B Q (i+1) bs rest (aZ n s d r) H):=rfl
theorem xp(d:Option Tmp)(H0:aa)(r:AV)(H':aa)(r':AV):kU P hint n ops a p bx B Q i bs rest s d H0 r H' r' H=(r'=r∧H=H'.set p bx∧H'[p]?=H0[p]?∧Ext B H'∧aS P hint n ops a p bx B Q (i+1) bs rest (aZ n s d r) H'):=rfl
theorem xY(d:Option Tmp)(op:Op)(ty:TypeId)(ps:String)(af:Array Edge)(g:Option (Nat×Bool))(H0:aa)(r:AV):kY P hint n ops a p bx B Q i bs rest s ⟨d,op,ty,ps,af,g⟩ H0 r H=(if i<a then ay P hint s (H0.set p bx) ⟨d,op,ty,ps,af,g⟩ (kU P hint n ops a p bx B Q i bs rest s d H0 r H) yM else Ext B H∧aS P hint n ops a p bx B Q (i+1) bs rest (aZ n s d r) H):=rfl
theorem rF(l:List Oper):aS P hint n ops a p bx B Q i [] l s H=aG P hint n ops Q l s H:=by cases l<;>rfl
theorem tL(l:List Oper):aS P hint n ops a p bx B Q i bs l.toArray.toList s H=aS P hint n ops a p bx B Q i bs l s H:=rfl
theorem xe(d:Option Tmp)(op:Op)(ty:TypeId)(ps:String)(af:Array Edge):aS P hint n ops a p bx B Q i (some false::bs) (⟨d,op,ty,ps,af,none⟩::rest) s H=if i=a then eA P hint p bx ⟨d,op,ty,ps,af,none⟩ H∧aS P hint n ops a p bx B Q (i+1) bs rest (aZ n s d (.ptr p 1 0 0)) (H.set p bx)else ay P hint s H ⟨d,op,ty,ps,af,none⟩ (qk P hint n ops a p bx B Q i bs rest s d H) yM:=by
 simp only[aS,b9]<;>rfl
theorem yh(d:Option Tmp)(op:Op)(ty:TypeId)(ps:String)(af:Array Edge):aS P hint n ops a p bx B Q i (none::bs) (⟨d,op,ty,ps,af,none⟩::rest) s H=if i=a then eA P hint p bx ⟨d,op,ty,ps,af,none⟩ H∧aS P hint n ops a p bx B Q (i+1) bs rest (aZ n s d (.ptr p 1 0 0)) (H.set p bx)else ay P hint s B ⟨d,op,ty,ps,af,none⟩ (qN P hint n ops a p bx B Q i bs rest s d H) yM:=by
 simp only[aS,b9]<;>rfl
theorem yH(d:Option Tmp)(op:Op)(ty:TypeId)(ps:String)(af:Array Edge):aS P hint n ops a p bx B Q i (some true::bs) (⟨d,op,ty,ps,af,none⟩::rest) s H=if i=a then eA P hint p bx ⟨d,op,ty,ps,af,none⟩ H∧aS P hint n ops a p bx B Q (i+1) bs rest (aZ n s d (.ptr p 1 0 0)) (H.set p bx)else ay P hint s H ⟨d,op,ty,ps,af,none⟩ (kY P hint n ops a p bx B Q i bs rest s ⟨d,op,ty,ps,af,none⟩ H) yM:=by
 simp only[aS,true_and]
 by_cases h:i<a
 ·have e:kY P hint n ops a p bx B Q i bs rest s ⟨d,op,ty,ps,af,none⟩ H=fun r H'=>ay P hint s (H.set p bx) ⟨d,op,ty,ps,af,none⟩ (kU P hint n ops a p bx B Q i bs rest s d H r H') yM:=by
   funext r H';exact if_pos h
  rw[e,if_pos h];rfl
 ·have e:kY P hint n ops a p bx B Q i bs rest s ⟨d,op,ty,ps,af,none⟩ H=fun r H'=>Ext B H'∧aS P hint n ops a p bx B Q (i+1) bs rest (aZ n s d r) H':=by
   funext r H';exact if_neg h
  rw[e,if_neg h];rfl
end
section
variable {P:Program} {hint:Nat→Bool} {n:Nat} {ops:Array Oper} {a p:Nat} {bx:aA} {B:aa} {Q:aJ} {i:Nat} {bs:List (Option Bool)} {rest:List Oper} {s:Nat→AV}
@[congr] theorem Fz {l:List Oper} {H H':aa} (h:nf H=H'):aS P hint n ops a p bx B Q i bs l s H=aS P hint n ops a p bx B Q i bs l s H':=by rw[←h];rfl
@[congr] theorem DK {d:Option Tmp} {H0 H H':aa} {r r':AV} (g:nf r=r') (h:nf H=H'):qN P hint n ops a p bx B Q i bs rest s d H0 r H=qN P hint n ops a p bx B Q i bs rest s d H0 r' H':=by rw[←g,←h];rfl
@[congr] theorem DJ {d:Option Tmp} {H0 H H':aa} {r r':AV} (g:nf r=r') (h:nf H=H'):qk P hint n ops a p bx B Q i bs rest s d H0 r H=qk P hint n ops a p bx B Q i bs rest s d H0 r' H':=by rw[←g,←h];rfl
@[congr] theorem DM {d:Option Tmp} {H0 H1 H H':aa} {r0 r r':AV} (g:nf r=r') (h:nf H=H'):kU P hint n ops a p bx B Q i bs rest s d H0 r0 H1 r H=kU P hint n ops a p bx B Q i bs rest s d H0 r0 H1 r' H':=by rw[←g,←h];rfl
@[congr] theorem DN {o:Oper} {H0 H H':aa} {r r':AV} (g:nf r=r') (h:nf H=H'):kY P hint n ops a p bx B Q i bs rest s o H0 r H=kY P hint n ops a p bx B Q i bs rest s o H0 r' H':=by rw[←g,←h];rfl
end
attribute [go_sem] yE yx xp xY rF tL xe yh yH
inductive DP (H:aa):AV→AV→Prop
 |d (x:D):DP H (.d x) (.d x)
 |sl (id k ver off len:Nat) (e:TypeId) (es:List (List D)) (ho:H[id]?=some (.arr e k ver es)):DP H (.sl id ver off len) (.d (.list false ((es.drop off).take len)))
inductive uR (H:aa):List AV→List AV→Prop
 |nil:uR H [] []
 |cons {x y:AV} {xs ys:List AV} (h:DP H x y) (t:uR H xs ys):uR H (x::xs) (y::ys)
theorem uR.len{H:aa}{xs ys:List AV}(h:uR H xs ys):xs.length=ys.length:=by
 induction h with
 |nil=>rfl
 |cons _ _ ih=>simp[ih]
theorem uR.get{H:aa}{xs ys:List AV}(h:uR H xs ys):∀i (h1:i<xs.length) (h2:i<ys.length),DP H xs[i] ys[i]:=by
 induction h with
 |nil=>intro i h1;simp at h1
 |cons h t ih=>
  intro i h1 h2
  cases i with
  |zero=>exact h
  |succ i=>exact ih i (by simpa using h1) (by simpa using h2)
def B6(w:World):Addr→Prop:=fun a=>∃v,w.cell? a=some v
theorem DP.ra{H:aa}{φ:aF}{N:Addr→Prop}{w:World}(hR:Rel H φ N w){x y:AV}{v:Value}(h:DP H x y)(hx:RA H φ N w x v):RA [] (fun _=>none) (B6 w) w y v:=by
 cases h with
 |d x=>
  cases hx with
  |d hd=>exact .d (hd.mono (fun a ha=>hR.live a ha) fun _ _ _ h=>h)
 |sl id k ver off len e es ho=>
  cases hx with
  |sl _ _ _ _ A l m' o ho' hv' hp=>
  rw[ho]at ho';cases ho'
  obtain⟨rfl,h1,h2⟩:=hp rfl
  simp only[aA.len]at h1
  by_cases hl0:l=0
  ·subst hl0
   simp only[List.take_zero]
   exact .d (.nil _ _ (by rcases h2 with⟨_,_,_,rfl⟩|⟨B,c,_,_,rfl,_⟩;exact fun _=>rfl;exact fun h=>by cases h))
  have hobj:=hR.obj id _ ho
  cases hobj with
  |arr _ _ _ _ hk hes hbl=>
  rcases h2 with⟨_,h3,_⟩|⟨B,c,h3,h4,rfl,rfl⟩
  ·omega
  rcases hbl with⟨g0,_⟩|⟨B',cap,cur,g1,g2,g3,g4,g5,g6⟩
  ·rw[g0]at h3;cases h3
  obtain⟨e1,e2⟩:=Prod.mk.inj (Option.some.inj (g1.symm.trans h3))
  subst e1 e2
  have hel:((es.drop off).take l).length=l:=by simp;omega
  have key:=RD.list (N:=B6 w) (w:=w) false ((es.drop off).take l) ⟨B',off* k,none⟩ (cap-off) k (fun i j=>cur.getD ((off+i)* k+j) undef) (by rw[hel];omega)
   (fun e he=>hes e (List.mem_of_mem_drop (List.mem_of_mem_take he))) (fun i j hi hj=>by
    rw[hel]at hi
    have hlt:(off+i)* k+j<es.length* k:=cd hj (by omega)
    have hlt2:(off+i)* k+j<cur.size:=by have:=Nat.mul_le_mul_right k g3;omega
    have hpos:off* k+(i* k+j)=(off+i)* k+j:=by rw[Nat.add_mul];omega
    rw[add_plain,hpos]
    have hc:w.cell? ⟨B',(off+i)* k+j,none⟩=some (cur.getD ((off+i)* k+j) undef):=by simp[World.cell?,g2,Array.getD,hlt2]
    exact⟨⟨_,hc⟩,hc⟩) (fun i hi j hj=>by
    rw[hel]at hi
    simp only[List.getElem_take,List.getElem_drop]at hj⊢
    obtain⟨u,hu,hd⟩:=g6 (off+i) (by omega) j hj
    have hget:cur.getD ((off+i)* k+j) undef=u:=by
     rw[Array.getD_eq_getD_getElem?,hu];rfl
    simp only[hget]
    exact hd.mono (fun a ha=>hR.live a ha) fun _ _ _ h=>h)
  rw[hel]at key
  exact .d key
end Go.Proofs.YtfklokhopcmloaaGreatAw
namespace Go.Proofs.YtfklokhopcmloaaGreat
open Go.Proofs.YtfklokhopcmloaaGreatAw Go.RowKit
theorem xn(H xs ys:aa):Ext (H++xs) (H++(xs++ys)):=by rw[←List.append_assoc];exact Ext.app _ _
theorem y9{H T G:aa}{s:Nat→AV}(e:TypeId)(k:Nat)(hk:0<k)(h:G=H++T):al H s G (fun t=>nE G H.length (s t)) (H++[.arr e k 0 []]):=by
 subst h
 exact(al.drop H T s).trans (al.more _ _ e k hk)
theorem tu.Gf{m:Nat}{In:aa→Prop}{Ix:AX→aa→Prop}{H ob0:aa}{s:Nat→AV}(cW T:aa){H3:aa}(e:H3=H++(cW++T))(hk:cW.length=ob0.length)(hm:m=(H++ob0).length)(hb:cW.all (aA.below m)=true)
  (hi:Ix .ret (H++cW)):tu m In Ix (H++ob0) .ret s H3:=by
 obtain⟨s3,H4,h1,h2,h3⟩:=tu.cut (In:=fun X=>X=H++cW) (Ix:=fun _ _=>False) (s:=s) cW T e hk hm hb rfl
 subst h3
 exact⟨s3,_,h1,h2,hi⟩
theorem tB(S:List (List Sg))(l:List Sg):dr S++[[.list false (l.map Sg.ds)]]=dr (S++[l]):=by simp[dr]
theorem oZ{ks:List Int}:∀{R:List (List aj)},gQ ks R=0→∀r∈R,fP r ks=0
 |[],_,r,h=>by cases h
 |x::R,h,r,hr=>by
  unfold gQ at h
  by_cases h0:fP x ks=0
  ·rw[if_neg (by simpa using h0)]at h
   rcases List.mem_cons.1 hr with rfl|hr
   ·exact h0
   ·exact oZ h r hr
  ·rw[if_pos h0]at h;exact absurd h h0
theorem vt{R:List (List aj)}{ks:List Int}(h:cF R ks=0)(r:List aj)(hr:r∈R):r.length=ks.length:=by
 unfold cF at h
 split at h
 ·cases h
 ·split at h
  ·cases h
  ·have:=oZ h r hr
   unfold fP at this
   split at this
   ·cases this
   ·rename_i hh;simpa using hh
theorem r6{l:List Int}{n:Int}(h:df l n=true)(x:Int)(hx:x∈l):0≤x∧x<n:=by
 unfold df at h
 simp only[Bool.not_eq_true',List.any_eq_false,decide_eq_true_eq]at h
 have:=h x hx
 omega
theorem rr(R:List (List aj))(ks cs key:List Int)(w:Int)(n0 n1 n2 n3:Bool)(H:aa)(hR:R.length≤1000000000)(hr:∀r∈R,r.length≤1000000000)(hk:ks.length≤1000000000)(hcl:cs.length≤1000000000)(hkl:key.length≤1000000000)(hI:∀r∈R,∀v∈r,kC v.i)(he:cF R ks=0)(hb:¬q5 ks cs key):
  ae Tryz.prog 26 [.d (.list n0 (bu R)),.d (.list n1 (ints ks)),.d (.list n2 (ints cs)),.d (.list n3 (ints key)),iA w] H
   (.ok (if iE (mC R key) ks cs w≠0 then .a7 [.agg eR,iA (iE (mC R key) ks cs w)]else .a7 [(Pj.mk cs key R.length (ed (mC R key) ks cs w)).av,iA 0])) H:=by
 have hc:=fun H=>iQ R ks n0 n1 H (by omega) (fun r h=>by have:=hr r h;omega) (by omega)
 have hw1:=fun H=>fx cs n2 ks.length H (by omega)
 have hw2:=fun H=>fx key n3 ks.length H (by omega)
 have ho:=fun H=>CI.pn n2 cs H hcl
 have hcl1:=fun H=>lG cs n2 H (by omega)
 have hcl2:=fun H=>lG key n3 H (by omega)
 have hby:=fun H=>Br R key n0 n3 H hR hr (by omega)
 have hcn:decide cs.Nodup=false↔¬cs.Nodup:=by simp
 have g1:¬cs.length=0:=fun h=>hb (.inl h)
 have g2:¬8<key.length:=fun h=>hb (.inr (.inl h))
 have g3:df cs ks.length=true:=by cases h:df cs ks.length;exact absurd (.inr (.inr (.inl h))) hb;rfl
 have g4:df key ks.length=true:=by cases h:df key ks.length;exact absurd (.inr (.inr (.inr (.inl h)))) hb;rfl
 have g5:decide cs.Nodup=true:=by cases h:decide cs.Nodup;exact absurd (.inr (.inr (.inr (.inr (hcn.1 h))))) hb;rfl
 rw[he]at hc
 rw[g3]at hw1
 rw[g4]at hw2
 rw[g5]at ho
 have hQl:(mC R key).length=R.length:=St.aN _
 have hQm:∀r,r∈mC R key↔r∈R:=fun r=>St.gi (j6 key).ord
 have hQr:∀r∈mC R key,r.length=ks.length:=fun r h=>vt he r ((hQm r).1 h)
 have hQI:∀r∈mC R key,∀v∈r,kC v.i:=fun r h=>hI r ((hQm r).1 h)
 have hcr:∀c∈cs,0≤c∧c<ks.length:=fun c h=>r6 g3 c h
 generalize mC R key=Q at*
 refine ae.cr (hint:=fun t=>t==2000000||t==1000024||t==1000026) Tryz.func26 (by kernel_rfl) rfl [.cell 10 49,.cell 11 62] (by kernel_rfl) (by simp[Tryz.ntmps26]) ?_
 rw[Tryz.ntmps26]
 simp -implicitDefEqProofs only[↓reduceIte,go_sem,ai,Nat.reduceAdd,Nat.reduceLT,Nat.reduceEqDiff,Nat.reduceBEq,reduceCtorEq]
 refine ag.ok (hc _) ?_
 simp -implicitDefEqProofs only[↓reduceIte,go_sem,ai,Nat.reduceAdd,Nat.reduceLT,Nat.reduceEqDiff,Nat.reduceBEq,reduceCtorEq,aw,show ¬((cs.length:Int)=0) by omega,show ¬(8:Int)<key.length by omega]
 refine ag.ok (hw1 _) ?_
 simp -implicitDefEqProofs only[↓reduceIte,go_sem,ai,Nat.reduceLT,Nat.reduceEqDiff,reduceCtorEq,aw]
 refine ag.ok (hw2 _) ?_
 simp -implicitDefEqProofs only[↓reduceIte,go_sem,Nat.reduceLT,Nat.reduceEqDiff,reduceCtorEq]
 refine ag.ok (ho _) ?_
 simp -implicitDefEqProofs only[↓reduceIte,go_sem,Nat.reduceAdd,Nat.reduceLT,Nat.reduceEqDiff,Nat.reduceBEq,reduceCtorEq]
 refine ag.ok (hcl1 _) ?_
 simp -implicitDefEqProofs only[↓reduceIte,go_sem,Nat.reduceLT,Nat.reduceEqDiff]
 refine ag.ok (hcl2 _) ?_
 simp -implicitDefEqProofs only[↓reduceIte,go_sem,aq,Nat.reduceAdd,Nat.reduceLT,Nat.reduceLeDiff,Nat.reduceEqDiff,Nat.reduceBEq,reduceCtorEq,bT]
 refine ag.ok (hby _) ?_
 simp -implicitDefEqProofs only[↓reduceIte,go_sem,Nat.reduceAdd,Nat.reduceLT,Nat.reduceEqDiff,Nat.reduceBEq,aw]
 refine aR (fun k s H'=>H'=H++[.box 23 1 0 1 [.d (.list n1 (ints ks))],.box 3 1 0 1 [iA w],.box 49 4 0 1 eR,.box 62 1 0 1 [iA 0],.box 49 4 0 1 [.d (.list false (ints cs)),.d (.list false (ints key)),iA R.length,.sl (H.length+5) k 0 k],.arr 91 1 k (dr (ed Q ks (cs.take k) w))]∧(∀x∈(cs.take k).flatMap fun c=>(aY Q ks w c).map (·.2),x=0)∧s 6= .ptr H.length 0 0 0∧s 9= .ptr (H.length+1) 0 0 0∧s 10= .ptr (H.length+2) 0 0 0∧s 11= .ptr (H.length+3) 0 0 0∧s 13= .ptr (H.length+4) 0 0 0∧s 14= .d (.list false (bu Q))∧s 69= .d (.list n2 (ints cs))∧s 70=iA cs.length∧s 71=iA k) cs.length (by omega) (al.dg _ _ (H.length+4) 49 4 0 1 [.d (.list false (ints cs)),.d (.list false (ints key)),iA R.length,.d (.v (.slice none 0 0))] 3 _ 91 1 (by decide) (by simp -implicitDefEqProofs only[go_sem]) rfl rfl) ?_ ?_ ?_
 ·refine⟨?_,?_,?_⟩
  ·simp -implicitDefEqProofs only[go_sem,Nat.reduceAdd,List.take_zero,ed,dr,eR]
  ·intro x hx;simp at hx
  ·simp -implicitDefEqProofs only[↓reduceIte,go_sem,Nat.reduceLT,Nat.reduceEqDiff]
 ·rintro k s H' hk' hw ⟨rfl,hp,t6,t9,t10,t11,t13,t14,t69,t70,t71⟩
  have hy:=cx cs k hk'
  have hcm:=hcr cs[k] (List.getElem_mem hk')
  have e1:cs.take (k+1)=cs.take k++[cs[k]]:=List.take_succ_eq_append_getElem hk'
  have e2:cs=cs.take k++cs[k]::cs.drop (k+1):=by rw[←List.drop_eq_getElem_cons hk',List.take_append_drop]
  generalize hcc:cs[k]=c at*
  simp -implicitDefEqProofs only[↓reduceIte,go_sem,aq,Nat.reduceAdd,Nat.reduceLT,Nat.reduceEqDiff,Nat.reduceBEq,t14,t69,t70,t71,hk',hy]
  refine ag.ok (uy false Q _) ?_
  simp -implicitDefEqProofs only[go_sem,Nat.reduceAdd]
  have hWl:(dr (ed Q ks (cs.take k) w)).length=k:=by simp[dr,ed];omega
  have hW:dr (ed Q ks (cs.take (k+1)) w)=dr (ed Q ks (cs.take k) w)++[[.list false (((aY Q ks w c).map (·.1)).map Sg.ds)]]:=by rw[e1,tB];simp[ed]
  generalize dr (ed Q ks (cs.take k) w)=W at*
  generalize hW2:dr (ed Q ks (cs.take (k+1)) w)=W2 at*
  refine je (fun t=>t==22||t==1000020) (fun j Hk=>Hk=H++[.box 23 1 0 1 [.d (.list n1 (ints ks))],.box 3 1 0 1 [iA w],.box 49 4 0 1 eR,.box 62 1 0 1 [iA 0],.box 49 4 0 1 [.d (.list false (ints cs)),.d (.list false (ints key)),iA R.length,.sl (H.length+5) k 0 k],.arr 91 1 k W,.box 3 1 0 1 [iA c],.box 91 1 0 1 [.sl (H.length+10) j 0 j],cB false Q,nB 256,.arr 94 12 j ((((aY Q ks w c).take j).map (·.1)).map Sg.ds)]∧∀x∈(aY Q ks w c).take j,x.2=0)
   (fun e Hx=>∃j L,e= .ret∧Hx=H++[.box 23 1 0 1 [.d (.list n1 (ints ks))],.box 3 1 0 1 [iA w],.box 49 4 0 1 eR,.box 62 1 0 1 [iA (iE Q ks cs w)],.box 49 4 0 1 [.d (.list false (ints cs)),.d (.list false (ints key)),iA R.length,.sl (H.length+5) k 0 k],.arr 91 1 k W,.box 3 1 0 1 [iA c],.box 91 1 0 1 [.sl (H.length+10) j 0 j],cB false Q,nB 256,.arr 94 12 j L]∧iE Q ks cs w≠0)
   (by kernel_rfl) (by kernel_rfl) (al.dg _ _ (H.length+7) 91 1 0 1 [.d (.v (.slice none 0 0))] 0 _ 94 12 (by decide) (by simp -implicitDefEqProofs only[go_sem]) rfl rfl) (by simp -implicitDefEqProofs only[↓reduceIte,go_sem,Nat.reduceLT]) (Ab false Q (H.length+8) (H.length+9) (by omega)) ?_ ?_ ?_ ?_ ?_ ?_
  ·intro v hv
   obtain⟨u,_,rfl⟩:=List.mem_map.1 hv
   exact⟨rfl,fun w hw=>by rw[List.mem_singleton.1 hw];rfl⟩
  ·refine⟨?_,fun x hx=>by simp at hx⟩
   simp -implicitDefEqProofs only[go_sem,Nat.reduceAdd,List.take_zero]
  ·rintro j _ ⟨rfl,_⟩
   exact⟨by simp -implicitDefEqProofs only[go_sem],by simp -implicitDefEqProofs only[go_sem,Nat.reduceAdd]⟩
  ·rintro j hj _ ⟨rfl,hq⟩
   rw[vI]
   rw[kg]at hj
   have hjl:=zp.1 hj
   have hpc:(aY Q ks w c)[j]?=some (jx (gZ c (vS Q j)) (ks.getD c.toNat 0) w):=by simp[aY,pH,hj]
   have hpl:(vS Q j).length≤256:=by unfold vS;rw[List.length_take];omega
   have hpm:∀r∈vS Q j,r∈Q:=fun r h=>List.mem_of_mem_drop (List.mem_of_mem_take h)
   obtain⟨cn,rfl⟩:=Int.eq_ofNat_of_zero_le hcm.1
   have hcn2:cn<ks.length:=by omega
   have hkd:ks.getD (cn:Int).toNat 0=ks[cn]:=by simp[List.getD,hcn2]
   have hkx:=cx ks cn hcn2
   rw[hkd]at hpc
   generalize ks[cn]=kd at*
   have hpr:∀r∈vS Q j,r.length=ks.length:=fun r h=>hQr r (hpm r h)
   have hpI:∀v∈gZ cn (vS Q j),kC v.i:=fun v hv=>by
    obtain⟨r,h1,rfl⟩:=List.mem_map.1 hv
    have hl:=hpr r h1
    have:gl r (cn:Int)=r[cn]'(by omega):=by simp[gl,List.getD,show cn<r.length by omega];intro h;omega
    rw[this]
    exact hQI r (hpm r h1) _ (List.getElem_mem _)
   generalize hpp:vS Q j=p at*
   have hmk:=fun G:aa=>yz (gZ cn p) kd w hpI (by simp[gZ];omega) G
   have hLl:(((List.take j (aY Q ks w cn)).map (·.1)).map Sg.ds).length=j:=by
    rw[List.length_map,List.length_map,List.length_take]
    have:=(List.getElem?_eq_some_iff.1 hpc).1
    omega
   generalize hL:((List.take j (aY Q ks w cn)).map (·.1)).map Sg.ds=L at*
   simp -implicitDefEqProofs only[↓reduceIte,go_sem,Nat.reduceAdd,Nat.reduceLT,Nat.reduceEqDiff,Nat.reduceBEq,bT]
   refine aR (fun i s G=>G=(H++[.box 23 1 0 1 [.d (.list n1 (ints ks))],.box 3 1 0 1 [iA w],.box 49 4 0 1 eR,.box 62 1 0 1 [iA 0],.box 49 4 0 1 [.d (.list false (ints cs)),.d (.list false (ints key)),iA R.length,.sl (H.length+5) k 0 k],.arr 91 1 k W,.box 3 1 0 1 [iA cn],.box 91 1 0 1 [.sl (H.length+10) j 0 j],cB false Q,nB 256,.arr 94 12 j L])++[.arr 69 3 i ((gZ cn (p.take i)).map aj.enc)]∧s 6= .ptr H.length 0 0 0∧s 9= .ptr (H.length+1) 0 0 0∧s 10= .ptr (H.length+2) 0 0 0∧s 11= .ptr (H.length+3) 0 0 0∧s 16= .ptr (H.length+6) 0 0 0∧s 17= .ptr (H.length+7) 0 0 0∧s 19= .sl (H.length+11) i 0 i∧s 78= .d (.list false (bu p))∧s 79=iA p.length∧s 80=iA i) p.length (by omega) (al.iT _ _ 19 69 3 (by decide) (by simp -implicitDefEqProofs only[↓reduceIte,go_sem,Nat.reduceLT,Nat.reduceEqDiff]) _) ?_ ?_ ?_
   ·refine⟨?_,?_⟩
    ·simp -implicitDefEqProofs only[go_sem,List.take_zero,gZ]
    ·simp -implicitDefEqProofs only[↓reduceIte,go_sem,Nat.reduceAdd,Nat.reduceLT,Nat.reduceEqDiff,t6,t9,t10,t11]
   ·rintro i s G hi hw3 ⟨rfl,t6,t9,t10,t11,t16,t17,t19,t78,t79,t80⟩
    have hx:=ja p i hi
    have hrl:=hpr p[i] (List.getElem_mem hi)
    have e3:(gZ cn (p.take (i+1))).map aj.enc=(gZ cn (p.take i)).map aj.enc++[(gl p[i] cn).enc]:=by rw[List.take_succ_eq_append_getElem hi];unfold gZ;rw[List.map_append,List.map_append];rfl
    have hvl:((gZ cn (p.take i)).map aj.enc).length=i:=by simp[gZ];omega
    have hat:gl p[i] (cn:Int)=p[i][cn]'(by omega):=by simp[gl,List.getD,show cn<p[i].length by omega];intro h;omega
    have hvx:(p[i].map aj.enc)[cn]?=some (gl p[i] cn).enc:=by rw[hat,List.getElem?_map,List.getElem?_eq_getElem (by omega)];rfl
    have hrl2:cn<p[i].length:=by omega
    rw[e3]
    clear hat
    generalize (gZ cn (p.take i)).map aj.enc=VV at*
    generalize gl p[i] (cn:Int)=v at*
    generalize p[i]=r at*
    simp -implicitDefEqProofs only[↓reduceIte,go_sem,ai,Nat.reduceAdd,Nat.reduceLT,Nat.reduceLeDiff,Nat.reduceEqDiff,Nat.reduceBEq,t16,t19,t78,t79,t80,hi,hx,hvx,hvl,aj.enc]
    refine⟨by omega,by omega,db.same ⟨rfl,?_⟩⟩
    simp -implicitDefEqProofs only[↓reduceIte,go_sem,Nat.reduceLT,Nat.reduceEqDiff,t6,t9,t10,t11,t16,t17,t78,t79,show IntKind.i64.wrap ((i:Int)+1)=(i:Int)+1 from wrap64_in _ (by omega) (by omega)]
   ·rintro s G ⟨rfl,t6,t9,t10,t11,t16,t17,t19,t78,t79,t80⟩
    simp -implicitDefEqProofs only[↓reduceIte,go_sem,Nat.reduceAdd,Nat.reduceLT,Nat.reduceBEq,t79,t80]
    rw[List.take_of_length_le (Nat.le_refl _)]
    have hcl3:(gZ cn p).length=p.length:=by simp[gZ]
    generalize gZ (cn:Int) p=V at*
    refine⟨_,_,y9 (T:=[_]) 94 12 (by decide) (by rw[List.append_assoc];rfl),?_⟩
    simp -implicitDefEqProofs only[go_sem]
    generalize jx V kd w=mp at*
    obtain⟨sg,e⟩:=mp
    simp only at hmk
    have hti:TI Tryz.prog 94=some ((.agg #[.int .i64 0,.int .i64 0,.int .i64 0,.int .i64 0,.int .i64 0,.int .i64 0,.string ⟨#[]⟩,.int .i64 0,.int .i64 0,.string ⟨#[]⟩,.slice none 0 0,.slice none 0 0]:Value),12,144):=by kernel_rfl
    refine pg [some false,none,none,none,none,none,some true,some false,some false,some false,some true,some true,some false] 10 (H.length+11) (.box 94 12 1 1 oy) (H++[.box 23 1 0 1 [.d (.list n1 (ints ks))],.box 3 1 0 1 [iA w],.box 49 4 0 1 eR,.box 62 1 0 1 [iA 0],.box 49 4 0 1 [.d (.list false (ints cs)),.d (.list false (ints key)),iA R.length,.sl (H.length+5) k 0 k],.arr 91 1 k W,.box 3 1 0 1 [iA cn],.box 91 1 0 1 [.sl (H.length+10) j 0 j],cB false Q,nB 256,.arr 94 12 j L]) K.mixed (by kernel_rfl) (by kernel_rfl) (by kernel_rfl) (xn _ [_,_,_,_,_,_,_,_,_,_,_] [_]) (by intro o ho;simp at ho) ?_
    simp -implicitDefEqProofs only[↓reduceIte,go_sem,ai,Nat.reduceAdd,Nat.reduceLT,Nat.reduceEqDiff,reduceCtorEq,t6,t9,t16,t19,hkx,kF,List.length_map,hcl3]
    refine ag.ok (hmk _) ?_
    simp -implicitDefEqProofs only[↓reduceIte,go_sem,Nat.reduceAdd,Nat.reduceLT,Nat.reduceEqDiff]
    refine ag.ok (hmk _) ?_
    obtain⟨sk,sw,⟨zr,zn,mn,mx⟩,ns,bd⟩:=sg
    simp -implicitDefEqProofs only[↓reduceIte,go_sem,aq,Nat.reduceAdd,Nat.reduceLT,Nat.reduceEqDiff,Sg.cs]
    refine⟨xn _ [_,_,_,_,_,_,_,_,_,_,_] [_],⟨_,_,_,_,94,rfl,rfl,hti,⟨by decide,by kernel_rfl,by kernel_rfl⟩,rfl,rfl,by simp -implicitDefEqProofs only[go_sem]⟩,?_⟩
    simp -implicitDefEqProofs only[↓reduceIte,go_sem,Nat.reduceAdd,Nat.reduceLT,Nat.reduceEqDiff,Nat.reduceBEq,oy,iF]
    refine⟨xn _ [_,_,_,_,_,_,_,_,_,_,_] [_],?_⟩
    by_cases h3:e=0
    ·subst h3
     simp -implicitDefEqProofs only[↓reduceIte,go_sem,ai,aq,Nat.reduceAdd,Nat.reduceLT,Nat.reduceLeDiff,Nat.reduceEqDiff,Nat.reduceBEq,t17]
     refine⟨hLl,by omega,by omega,?_⟩
     refine tu.cut [.box 23 1 0 1 [.d (.list n1 (ints ks))],.box 3 1 0 1 [iA w],.box 49 4 0 1 eR,.box 62 1 0 1 [iA 0],.box 49 4 0 1 [.d (.list false (ints cs)),.d (.list false (ints key)),iA R.length,.sl (H.length+5) k 0 k],.arr 91 1 k W,.box 3 1 0 1 [iA cn],.box 91 1 0 1 [.sl (H.length+10) (j+1) 0 (j+1)],cB false Q,nB 256,.arr 94 12 (j+1) (L++[Sg.ds ⟨sk,sw,⟨zr,zn,mn,mx⟩,ns,bd⟩])] _ (by rw[hLl];rfl) rfl (by simp -implicitDefEqProofs only[go_sem,Nat.reduceAdd]) (by simp -implicitDefEqProofs only[go_sem,Nat.reduceLT,eR]) ?_
     have e4:(aY Q ks w cn).take (j+1)=(aY Q ks w cn).take j++[(⟨sk,sw,⟨zr,zn,mn,mx⟩,ns,bd⟩,0)]:=by rw[List.take_add_one,hpc];rfl
     refine⟨?_,?_⟩
     ·rw[e4,List.map_append,List.map_append,hL];rfl
     ·rw[e4]
      intro x hx
      rcases List.mem_append.1 hx with hx|hx
      ·exact hq x hx
      ·rw[List.mem_singleton.1 hx]
    ·have hfe:iE Q ks cs w=e:=by
      obtain⟨hj2,hj3⟩:=List.getElem?_eq_some_iff.1 hpc
      have h4:=List.drop_eq_getElem_cons hj2
      rw[hj3]at h4
      have h5:(aY Q ks w cn).map (·.2)=((aY Q ks w cn).take j).map (·.2)++e::((aY Q ks w cn).drop (j+1)).map (·.2):=by
       conv=>lhs;rw[←List.take_append_drop j (aY Q ks w cn),h4,List.map_append,List.map_cons]
      unfold iE
      rw[e2,List.flatMap_append,List.flatMap_cons,h5,List.append_assoc,List.cons_append,←List.append_assoc]
      refine ue ?_ h3
      intro x hx
      rcases List.mem_append.1 hx with hx|hx
      ·exact hp x hx
      ·obtain⟨y,hy,rfl⟩:=List.mem_map.1 hx
       exact hq y hy
     simp -implicitDefEqProofs only[↓reduceIte,go_sem,aq,Nat.reduceAdd,Nat.reduceLT,Nat.reduceEqDiff,h3,t10,t11,eR]
     refine tu.Gf [.box 23 1 0 1 [.d (.list n1 (ints ks))],.box 3 1 0 1 [iA w],.box 49 4 0 1 eR,.box 62 1 0 1 [iA e],.box 49 4 0 1 [.d (.list false (ints cs)),.d (.list false (ints key)),iA R.length,.sl (H.length+5) k 0 k],.arr 91 1 k W,.box 3 1 0 1 [iA cn],.box 91 1 0 1 [.sl (H.length+10) j 0 j],cB false Q,nB 256,.arr 94 12 j L] _ rfl rfl (by simp -implicitDefEqProofs only[go_sem,Nat.reduceAdd]) (by simp -implicitDefEqProofs only[go_sem,Nat.reduceLT,eR]) ?_
     exact⟨j,L,rfl,by rw[hfe];rfl,by rw[hfe];exact h3⟩
  ·rintro _ ⟨rfl,hq⟩
   have hpl:(aY Q ks w c).length=wz Q.length:=by simp[aY,pH]
   rw[kg,←hpl,List.take_length]at hq
   rw[kg,←hpl,List.take_length]
   have hq2:∀x∈(aY Q ks w c).map (·.2),x=0:=fun x hx=>by obtain⟨y,hy,rfl⟩:=List.mem_map.1 hx;exact hq y hy
   have hp2:∀x∈(cs.take (k+1)).flatMap fun c=>(aY Q ks w c).map (·.2),x=0:=by
    rw[e1,List.flatMap_append,List.flatMap_cons,List.flatMap_nil,List.append_nil]
    intro x hx
    rcases List.mem_append.1 hx with hx|hx
    ·exact hp x hx
    ·exact hq2 x hx
   have hLl:(((aY Q ks w c).map (·.1)).map Sg.ds).length=(aY Q ks w c).length:=by simp
   generalize ((aY Q ks w c).map (·.1)).map Sg.ds=L at*
   generalize (aY Q ks w c).length=n at*
   simp -implicitDefEqProofs only[go_sem,Nat.reduceAdd,Nat.reduceLT,Nat.reduceBEq]
   refine⟨_,_,al.lk _ _ (H.length+7) 1 0 1 0 (H.length+10) n 0 n 12 91 94 [.sl (H.length+10) n 0 n] L (by simp -implicitDefEqProofs only[go_sem]) rfl (by simp -implicitDefEqProofs only[go_sem]),?_⟩
   have hLt:=kF L n hLl
   simp -implicitDefEqProofs only[↓reduceIte,go_sem,ai,aq,Nat.reduceAdd,Nat.reduceLT,Nat.reduceLeDiff,Nat.reduceEqDiff,Nat.reduceBEq,hLt,t13,hWl,t71]
   refine⟨by omega,by omega,?_⟩
   rw[hW]
   refine db.cut [.box 23 1 0 1 [.d (.list n1 (ints ks))],.box 3 1 0 1 [iA w],.box 49 4 0 1 eR,.box 62 1 0 1 [iA 0],.box 49 4 0 1 [.d (.list false (ints cs)),.d (.list false (ints key)),iA R.length,.sl (H.length+5) (k+1) 0 (k+1)],.arr 91 1 (k+1) (W++[[.list false L]])] _ 6 rfl rfl (by simp -implicitDefEqProofs only[go_sem,Nat.reduceLT,eR]) ?_
   refine⟨rfl,hp2,?_⟩
   simp -implicitDefEqProofs only[↓reduceIte,go_sem,Nat.reduceLT,Nat.reduceEqDiff,t6,t9,t10,t11,t13,t14,t69,t70,hw]
  ·rintro _ _ ⟨j,L,rfl,rfl,h2⟩
   rw[if_pos h2]
   generalize iE Q ks cs w=e at*
   simp -implicitDefEqProofs only[go_sem]
   refine cI.ret ?_
   simp -implicitDefEqProofs only[↓reduceIte,go_sem,ai,Nat.reduceAdd,Nat.reduceLeDiff,Nat.reduceEqDiff,reduceCtorEq,t10,t11,bE,cJ,eR]
 ·rintro s H' ⟨rfl,hp,t6,t9,t10,t11,t13,t14,t69,t70,t71⟩
  rw[List.take_length]at hp
  rw[List.take_length]
  have hfe:iE Q ks cs w=0:=rO hp
  rw[if_neg (by rw[hfe];simp)]
  have hWl:(dr (ed Q ks cs w)).length=cs.length:=by simp[dr,ed]
  have hWt:=kF _ _ hWl
  unfold Pj.av Pj.ds
  simp only[List.map_cons,List.map_nil]
  generalize dr (ed Q ks cs w)=W at*
  generalize hm:cs.length=m at*
  simp -implicitDefEqProofs only[↓reduceIte,go_sem,Nat.reduceAdd,Nat.reduceLT,Nat.reduceBEq,t70,t71]
  refine⟨_,_,al.lk _ _ (H.length+4) 4 0 1 3 (H.length+5) m 0 m 1 49 91 [.d (.list false (ints cs)),.d (.list false (ints key)),iA R.length,.sl (H.length+5) m 0 m] W (by simp -implicitDefEqProofs only[go_sem]) rfl (by simp -implicitDefEqProofs only[go_sem]),?_⟩
  simp -implicitDefEqProofs only[↓reduceIte,go_sem,ai,aq,Nat.reduceAdd,Nat.reduceLT,Nat.reduceEqDiff,hWt,t13,t10,t11,eR]
  refine cI.ret ?_
  simp -implicitDefEqProofs only[↓reduceIte,go_sem,ai,Nat.reduceAdd,Nat.reduceLeDiff,Nat.reduceEqDiff,reduceCtorEq,t10,t11,bE,cJ]
theorem j2{R:List (List aj)}{ks:List Int}(h:cF R ks=0):0<ks.length∧ks.length≤8∧(∀k∈ks,1≤k∧k≤3)∧R.length≤4096∧gQ ks R=0:=by
 unfold cF at h
 split at h
 ·cases h
 ·rename_i h1
  split at h
  ·cases h
  ·refine⟨by omega,by omega,fun k hk=>?_,by omega,h⟩
   have h2:=fun hh=>h1 (.inr (.inr hh))
   rw[List.any_eq_true]at h2
   have h3:¬(k<1∨3<k):=fun hh=>h2 ⟨k,hk,decide_eq_true hh⟩
   omega
theorem uG(R:List (List aj))(ks cs key:List Int)(w:Int)(n0 n1 n2 n3:Bool)(H:aa)(hR:R.length≤1000000000)(hr:∀r∈R,r.length≤1000000000)(hk:ks.length≤100000000000000)(hcl:cs.length≤1000000000)(hkl:key.length≤1000000000)(hI:∀r∈R,∀v∈r,kC v.i):
  ae Tryz.prog 26 [.d (.list n0 (bu R)),.d (.list n1 (ints ks)),.d (.list n2 (ints cs)),.d (.list n3 (ints key)),iA w] H (.ok (.a7 [(fA R ks cs key w).1.av,iA (fA R ks cs key w).2])) H:=by
 unfold fA
 by_cases he:cF R ks=0
 ·rw[if_neg (by simpa using he)]
  have hk:=(j2 he).2.1
  by_cases hb:q5 ks cs key
  ·rw[if_pos hb]
   exact(sT R ks cs key w n0 n1 n2 n3 H hR hr (by omega) hcl hkl he hb).jj (.cons qz (.cons (.refl _) .nil))
  ·rw[if_neg hb]
   have h:=rr R ks cs key w n0 n1 n2 n3 H hR hr (by omega) hcl hkl hI he hb
   by_cases hf:iE (mC R key) ks cs w=0
   ·rw[if_neg (by simpa using hf)]at h⊢
    exact h
   ·rw[if_pos hf]at h⊢
    exact h.jj (.cons qz (.cons (.refl _) .nil))
 ·rw[if_pos he]
  exact(r9 R ks cs key w n0 n1 n2 n3 H hR hr hk he).jj (.cons qz (.cons (.refl _) .nil))
abbrev Atom.av(a:Atom):AV:= .agg [iA a.A1,iA a.op,iA a.val.kind,iA a.val.i,sA a.val.s]
theorem su(l:List Atom)(p:Atom→Bool)(g:FuncId)(caps:List AV)(n1:Bool)(H:aa)(hl:l.length≤9223372036854775807)(hf:∀v∈l,ae Tryz.prog g ([v.av]++caps) H (.ok (bA (p v))) H):
  ae Tryz.prog 57 [.d (.list n1 (l.map Atom.enc)),.fn g caps] H (.ok (iA (ji p l))) H:=by
 refine ae.ak (hint:=(fun _=>false)) Tryz.func57 (by kernel_rfl) rfl [4] (by kernel_rfl) (by decide) (by simp[Tryz.ntmps57]) ?_
 rw[Tryz.ntmps57]
 simp -implicitDefEqProofs only[↓reduceIte,go_sem,Nat.reduceLT,Int.reduceNeg,reduceCtorEq]
 refine aR (fun k s H'=>H'=H∧(∀i (hi:i<k) (hl:i<l.length),p l[i]=false)∧s 0= .d (.list n1 (l.map Atom.enc))∧s 1= .fn g caps∧s 7=iA l.length∧s 8=iA k) l.length hl (al.refl _ _) ?_ ?_ ?_
 ·refine⟨rfl,fun i hi=>by omega,?_⟩
  simp -implicitDefEqProofs only[↓reduceIte,go_sem,Nat.reduceLT,Nat.reduceEqDiff,reduceCtorEq]
 ·rintro k s H' hk hw ⟨rfl,hp,h0,h1,h7,h8⟩
  have hx:=List.getElem?_eq_getElem hk
  have hit:p l[k]=true→ji p l=k:=fun h=>mA hp hk h
  have hpp:p l[k]=false→∀i (hi:i<k+1) (hl:i<l.length),p l[i]=false:=fun h0 i hi hl'=>by
   rcases Nat.lt_or_ge i k with h|h
   ·exact hp i h hl'
   ·obtain rfl:i=k:=by omega
    exact h0
  have hfk:=hf l[k] (List.getElem_mem hk)
  generalize l[k]=v at hx hit hpp hfk
  simp -implicitDefEqProofs only[↓reduceIte,go_sem,Nat.reduceAdd,Nat.reduceLT,Nat.reduceEqDiff,reduceCtorEq,h0,h1,h7,h8,hk,hx,Atom.enc]
  refine ag.ok hfk ?_
  cases hv:p v with
  |true=>
   simp -implicitDefEqProofs only[↓reduceIte,go_sem,Nat.reduceLT,Nat.reduceEqDiff]
   refine az.aW ?_
   simp -implicitDefEqProofs only[↓reduceIte,go_sem,Nat.reduceLT,hit hv]
  |false=>
   simp -implicitDefEqProofs only[↓reduceIte,go_sem,Nat.reduceLT,Nat.reduceEqDiff,h8]
   refine db.same ⟨rfl,hpp hv,?_⟩
   simp -implicitDefEqProofs only[↓reduceIte,go_sem,Nat.reduceLT,Nat.reduceEqDiff,reduceCtorEq,h0,h1,h7,hw]
 ·rintro s H' ⟨rfl,hp,h0,h1,h7,h8⟩
  simp -implicitDefEqProofs only[↓reduceIte,go_sem,Nat.reduceLT,Int.reduceNeg,h7,h8]
  refine az.aW ?_
  simp -implicitDefEqProofs only[↓reduceIte,go_sem,Nat.reduceLT,Int.reduceNeg,kA fun i hi=>hp i hi hi]
theorem nu(l:List Atom)(p:Atom→Bool)(g:FuncId)(caps:List AV)(n1:Bool)(H:aa)(hl:l.length≤9223372036854775807)(hf:∀v∈l,ae Tryz.prog g ([v.av]++caps) H (.ok (bA (p v))) H):
  ae Tryz.prog 32 [.d (.list n1 (l.map Atom.enc)),.fn g caps] H (.ok (bA (l.any p))) H:=by
 refine ae.ak (hint:=(fun _=>false)) Tryz.func32 (by kernel_rfl) rfl [4] (by kernel_rfl) (by decide) (by simp[Tryz.ntmps32]) ?_
 rw[Tryz.ntmps32]
 simp -implicitDefEqProofs only[↓reduceIte,go_sem,Nat.reduceLT,Nat.reduceEqDiff,reduceCtorEq]
 refine ag.ok (su l p g caps n1 H hl hf) ?_
 simp -implicitDefEqProofs only[↓reduceIte,go_sem,Nat.reduceLT,mU]
 refine az.aW ?_
 simp -implicitDefEqProofs only[↓reduceIte,go_sem,Nat.reduceLT,Bool.decide_eq_true]
abbrev Zn.av(z:Zn):AV:= .agg [iA z.rows,iA z.c4,iA z.mn.kind,iA z.mn.i,sA z.mn.s,iA z.mx.kind,iA z.mx.i,sA z.mx.s]
def Zn.ds(z:Zn):List D:=[iD z.rows,iD z.c4,iD z.mn.kind,iD z.mn.i,.v (.string z.mn.s),iD z.mx.kind,iD z.mx.i,.v (.string z.mx.s)]
def me:List (List Sg)→Nat
 |[]=>0
 |l::_=>l.length
def zo(l:List Sg)(k:Nat):Zn:=(l.map (·.fV)).getD k Gu
def zg(S:List (List Sg))(at':Int):List Zn:=if at'<0∨(me S:Int)≤at' then[]else S.map fun l=>zo l at'.toNat
structure Pj.Ok (p:Pj):Prop where
 bR:p.bR.length≤1000000000
 len:p.mG.length≤1000000000
 many:me p.mG≤1000000000
 same:∀l∈p.mG,l.length=me p.mG
 small:∀l∈p.mG,∀s∈l,s.fV.rows≤1000000000
theorem Pj.Ok.fh{p:Pj}(hp:p.Ok){n:Int}{z:Zn}(h:z∈zg p.mG n):z.rows≤1000000000:=by
 unfold zg at h
 split at h
 ·cases h
 ·obtain⟨l,hl,rfl⟩:=List.mem_map.1 h
  unfold zo
  rw[List.getD_eq_getElem?_getD,List.getElem?_map]
  cases e:l[n.toNat]? with
  |none=>simp[Gu]
  |some s=>exact hp.small l hl s (List.mem_of_getElem? e)
theorem tD{H:aa}{i:Nat}{o:aA}(h:H[i]?=some o)(T:aa):(H++T)[i]?=some o:=by rw[List.getElem?_append_left (ah h)];exact h
theorem n6(z:Zn)(v:aj):(aQ z v).rows=z.rows:=by
 unfold aQ
 split
 ·rfl
 ·unfold gW;split<;>(unfold gS;split<;>(unfold gX;split<;>rfl))
theorem vi(l:List aj):(oF l).rows=l.length:=by
 have:∀(m:List aj) (z:Zn),(m.foldl aQ z).rows=z.rows:=by
  intro m
  induction m with
  |nil=>exact fun z=>rfl
  |cons v m ih=>exact fun z=>(ih _).trans (n6 z v)
 exact this l _
theorem uz{l:List aj}{k w:Int}(h:(jx l k w).2=0):(jx l k w).1.fV=oF l:=by
 unfold jx at h⊢
 split
 ·rename_i h1;rw[if_pos h1]at h;exact absurd h h1
 ·rename_i h1
  rw[if_neg h1]at h
  split
  ·rename_i h2;rw[if_pos h2]at h;cases h
  ·rename_i h2
   rw[if_neg h2]at h
   split
   ·rename_i h3;rw[if_pos h3]at h;exact absurd h h3
   ·rfl
theorem rZ{l:List Int}(h:jF l=0):∀x∈l,x=0:=by
 intro x hx
 unfold jF at h
 cases e:l.find? fun e=>decide (e≠0)with
 |none=>have:=List.find?_eq_none.1 e x hx;simpa using this
 |some y=>
  rw[e]at h
  have:=List.find?_some e
  simp at this h
  exact absurd h this
structure nP (R:List (List aj)) (ks cs key:List Int) (w:Int) (p:Pj):Prop where
 check:cF R ks=0
 FP:¬q5 ks cs key
 pieces:∀c∈cs,∀x∈aY (mC R key) ks w c,x.2=0
 eq:p=⟨cs,key,R.length,ed (mC R key) ks cs w⟩
theorem nL{R:List (List aj)}{ks cs key:List Int}{w:Int}(h:(fA R ks cs key w).2=0):nP R ks cs key w (fA R ks cs key w).1:=by
 unfold fA at h⊢
 split
 ·rename_i h1;rw[if_pos h1]at h;exact absurd h h1
 ·rename_i h1
  rw[if_neg h1]at h
  split
  ·rename_i h2;rw[if_pos h2]at h;cases h
  ·rename_i h2
   rw[if_neg h2]at h
   split
   ·rename_i h3;rw[if_pos h3]at h;exact absurd h h3
   ·rename_i h3
    refine⟨by simpa using h1,h2,fun c hc x hx=>?_,rfl⟩
    exact rZ (Classical.not_not.1 h3) _ (List.mem_flatMap.2 ⟨c,hc,List.mem_map.2 ⟨x,hx,rfl⟩⟩)
theorem vW(R:List (List aj))(key:List Int):(mC R key).length=R.length:=St.aN _
theorem A4(R:List (List aj))(k:Nat):(vS R k).length=min 256 (R.length-256* k):=by simp[vS]
theorem vy(Q:List (List aj))(ks:List Int)(w c:Int):(aY Q ks w c).length=wz Q.length:=by simp[aY,pH]
theorem nP.GN{R:List (List aj)}{ks cs key:List Int}{w:Int}{p:Pj}(h:nP R ks cs key w p){l:List Sg}(hl:l∈p.mG):l.length=wz R.length∧∀(k:Nat) (hk:k<l.length),l[k].fV.rows=min 256 (R.length-256* k):=by
 rw[h.eq]at hl
 obtain⟨c,hc,rfl⟩:=List.mem_map.1 hl
 have h1:=h.pieces c hc
 refine⟨by rw[List.length_map,vy,vW],fun k hk=>?_⟩
 rw[List.length_map]at hk
 have h2:=h1 _ (List.getElem_mem hk)
 rw[List.getElem_map]
 have hk2:k<(pH (mC R key)).length:=by simpa[aY]using hk
 have e:(aY (mC R key) ks w c)[k]=jx (gZ c (vS (mC R key) k)) (ks.getD c.toNat 0) w:=by simp[aY,pH]
 rw[e]at h2⊢
 rw[uz h2,vi]
 simp[gZ,A4,vW]
theorem nP.many{R:List (List aj)}{ks cs key:List Int}{w:Int}{p:Pj}(h:nP R ks cs key w p):me p.mG=wz R.length:=by
 have h2:p.mG.length=cs.length:=by rw[h.eq];simp[ed]
 have h3:cs.length≠0:=fun e=>h.FP (.inl e)
 cases e:p.mG with
 |nil=>rw[e]at h2;simp at h2;omega
 |cons l S=>exact(h.GN (l:=l) (by rw[e];simp)).1
theorem nP.ok{R:List (List aj)}{ks cs key:List Int}{w:Int}{p:Pj}(h:nP R ks cs key w p)(hc:cs.length≤1000000000):p.Ok:=by
 have hR:=(j2 h.check).2.2.2.1
 refine⟨by rw[h.eq];exact hc,by rw[h.eq];simpa[ed]using hc,by rw[h.many];unfold wz;omega,fun l hl=>by rw[h.many];exact(h.GN hl).1,fun l hl s hs=>?_⟩
 obtain⟨k,hk,rfl⟩:=List.mem_iff_getElem.1 hs
 rw[(h.GN hl).2 k hk]
 omega
def fE(l:List Int):List (Int×AV):=l.map fun k=>(k,.d (.v (.bool true)))
theorem ml(n:Int):∀(l:List Int) (i:Nat),n∈l→∃j,et n (fE l) i=some (j,.d (.v (.bool true)))
 |[],_,h=>by simp at h
 |m::l,i,h=>by
  simp only[fE,List.map_cons,et]
  by_cases e:n=m
  ·exact⟨i,by simp[e]⟩
  ·simp only[if_neg e]
   exact ml n l (i+1) (by simpa[e]using h)
theorem gG(n:Int):∀(l:List Int) (i:Nat),n∉l→et n (fE l) i=none
 |[],_,_=>rfl
 |m::l,i,h=>by
  simp only[List.mem_cons,not_or]at h
  simp only[fE,List.map_cons,et,if_neg h.1]
  exact gG n l (i+1) h.2
theorem u7{n:Int}{l:List Int}(h:n∈l):dp n (fE l)=some (.d (.v (.bool true))):=by
 obtain⟨j,hj⟩:=ml n l 0 h
 simp[dp,hj]
theorem qT{n:Int}{l:List Int}(h:n∉l):dp n (fE l)=none:=by simp[dp,gG n l 0 h]
theorem qR{n:Int}{l:List Int}(h:n∉l):iu n (.d (.v (.bool true))) (fE l)=fE (l++[n]):=by
 unfold iu
 rw[gG n l 0 h]
 simp[fE]
def tell(out:List Int)(c:Int):List Int:=if c∈out then out else out++[c]
def dI(H:aa)(q:aA)(l:List Int)(ver:Nat)(T:aa):aa:=H++q:: .mp .i64 (fE l):: .box 100 1 0 1 [.mp (H.length+1)]:: .box 23 1 0 1 [.sl (H.length+4) ver 0 l.length]:: .arr 3 1 ver (ints l)::T
theorem gJ(n:Int)(l:List Int)(hl:l.length≤1000000)(H:aa)(q:aA)(ver:Nat)(T:aa):
  ∃ver',ae Tryz.prog 46 [iA n,.ptr (H.length+2) 0 0 0,.ptr (H.length+3) 0 0 0] (dI H q l ver T) (.ok (.a7 [])) (dI H q (tell l n) ver' T):=by
 by_cases hn:n∈l
 ·refine⟨ver,?_⟩
  refine ae.ak (hint:=(fun _=>false)) Tryz.func46 (by kernel_rfl) rfl [] (by kernel_rfl) (by decide) (by simp[Tryz.ntmps46]) ?_
  rw[Tryz.ntmps46]
  simp -implicitDefEqProofs only[↓reduceIte,go_sem,ai,Nat.reduceLT,Nat.reduceEqDiff,reduceCtorEq,dI,u7 hn,tell,hn]
  exact⟨_,al.refl _ _,rfl⟩
 ·refine⟨ver+1,?_⟩
  refine ae.ak (hint:=(fun _=>false)) Tryz.func46 (by kernel_rfl) rfl [] (by kernel_rfl) (by decide) (by simp[Tryz.ntmps46]) ?_
  rw[Tryz.ntmps46]
  simp -implicitDefEqProofs only[↓reduceIte,go_sem,ai,aq,Nat.reduceLT,Nat.reduceLeDiff,Nat.reduceEqDiff,reduceCtorEq,dI,qT hn,tell,hn]
  simp -implicitDefEqProofs only[go_sem,qR hn,aw,gd]
  exact⟨by omega,by omega,_,al.refl _ _,rfl⟩
def xS(a:Int×Int):List D:=[.v (.int .i64 a.1),.v (.int .i64 a.2)]
def wE(j:Int×D×D×D):List D:=[.v (.int .i64 j.1),j.2.1,j.2.2.1,j.2.2.2]
def fR(o:List Int)(a:Int×Int):List Int:=if a.1=1 then o else tell o a.2
def mz(o:List Int)(j:Int×D×D×D):List Int:=tell o j.1
def v8(bR:List Int)(c7:List (Int×Int))(bU:List (Int×D×D×D)):List Int:=bU.foldl mz (c7.foldl fR (bR.foldl tell []))
theorem dA{α:Type}(f:List Int→α→List Int)(hf:∀o x,(f o x).length≤o.length+1):∀(l:List α) (o:List Int),(l.foldl f o).length≤o.length+l.length
 |[],o=>by simp
 |x::l,o=>by
  have:=dA f hf l (f o x)
  have:=hf o x
  simp only[List.foldl_cons,List.length_cons];omega
theorem jf(o:List Int)(n:Int):(tell o n).length≤o.length+1:=by unfold tell;split<;>simp
theorem nw(o:List Int)(a:Int×Int):(fR o a).length≤o.length+1:=by unfold fR;split;omega;exact jf _ _
theorem jI{α β:Type}(f:β→α→β)(o:β)(l:List α)(k:Nat)(h:k<l.length):(l.take (k+1)).foldl f o=f ((l.take k).foldl f o) l[k]:=by
 rw[List.take_succ_eq_append_getElem h,List.foldl_append];rfl
theorem yf(bR:List Int)(c7:List (Int×Int))(bU:List (Int×D×D×D))(x0 x1 x4 x6 x7:D)(n2 n3 n5:Bool)(hc:bR.length≤100000)(ha:c7.length≤100000)(hj:bU.length≤100000)(H:aa):
  ae Tryz.prog 23 [.agg [.d x0,.d x1,.d (.list n2 (bU.map wE)),.d (.list n3 (ints bR)),.d x4,.d (.list n5 (c7.map xS)),.d x6,.d x7]] H (.ok (.d (.list false (ints (v8 bR c7 bU))))) H:=by
 refine ae.ak (hint:=(fun _=>false)) Tryz.func23 (by kernel_rfl) rfl [2] (by kernel_rfl) (by decide) (by simp[Tryz.ntmps23]) ?_
 rw[Tryz.ntmps23]
 simp -implicitDefEqProofs only[↓reduceIte,go_sem,ai,aq,Nat.reduceAdd,Nat.reduceLT,Nat.reduceLeDiff,Nat.reduceEqDiff]
 have hq:∃q,q=aA.box 31 8 0 1 [.d x0,.d x1,.d (.list n2 (bU.map wE)),.d (.list n3 (ints bR)),.d x4,.d (.list n5 (c7.map xS)),.d x6,.d x7]:=⟨_,rfl⟩
 obtain⟨q,hq⟩:=hq
 have hb:∀m,q.below m=true:=by intro m;subst hq;simp -implicitDefEqProofs only[go_sem]
 rw[←hq]
 have hW:=fun s=>al.dg (H0:=H) s (H++[q,.mp .i64 [],.box 100 1 0 1 [.mp (H.length+1)],.box 23 1 0 1 [.d (.v (.slice none 0 0))]]) (H.length+3) 23 1 0 1 [.d (.v (.slice none 0 0))] 0 (.d (.v (.slice none 0 0))) 3 1 (by decide) (by simp[]) rfl rfl
 refine aR (fun k s H'=>∃ver,H'=dI H q ((bR.take k).foldl tell []) ver []∧s 1= .ptr H.length 0 0 0∧s 5= .fn 46 [.ptr (H.length+2) 0 0 0,.ptr (H.length+3) 0 0 0]∧s 15= .d (.list n3 (ints bR))∧s 16=iA bR.length∧s 17=iA k∧s 4= .ptr (H.length+3) 0 0 0) bR.length (by omega) (hW _) ?_ ?_ ?_
 ·refine⟨0,?_⟩
  simp -implicitDefEqProofs only[↓reduceIte,go_sem,Nat.reduceAdd,Nat.reduceLT,Nat.reduceEqDiff,dI,fE,mi,aw]
 ·rintro k s H' hk hw ⟨ver,rfl,h1,h5,h15,h16,h17,h4⟩
  simp -implicitDefEqProofs only[↓reduceIte,go_sem,Nat.reduceLT,Nat.reduceEqDiff,h5,h15,h16,h17,hk,cx bR k hk]
  have hl:=dA tell jf (bR.take k) []
  have hl2:=List.length_take_le k bR
  obtain⟨ver',hd⟩:=gJ bR[k] ((bR.take k).foldl tell []) (by simp at hl;omega) H q ver []
  refine ag.ok hd ?_
  simp -implicitDefEqProofs only[↓reduceIte,go_sem,Nat.reduceLT,Nat.reduceEqDiff,h17]
  refine db.same ⟨ver',?_⟩
  simp -implicitDefEqProofs only[↓reduceIte,go_sem,Nat.reduceLT,Nat.reduceEqDiff,dI,h1,h5,h15,h16,h4,jI tell [] bR k hk,hw]
 ·rintro s H' ⟨ver,rfl,h1,h5,h15,h16,h17,h4⟩
  generalize hl1:(bR.take bR.length).foldl tell []=l1
  have hn1:=dA tell jf (bR.take bR.length) []
  rw[hl1]at hn1
  simp -implicitDefEqProofs only[↓reduceIte,go_sem,ai,Nat.reduceAdd,Nat.reduceLT,Nat.reduceLeDiff,Nat.reduceEqDiff,h1,h16,h17,dI,hq]
  rw[←hq]
  clear h15 h16 h17
  refine aR (fun k s H'=>∃ver,H'=dI H q ((c7.take k).foldl fR l1) ver []∧s 1= .ptr H.length 0 0 0∧s 5= .fn 46 [.ptr (H.length+2) 0 0 0,.ptr (H.length+3) 0 0 0]∧s 26= .d (.list n5 (c7.map xS))∧s 27=iA c7.length∧s 28=iA k∧s 4= .ptr (H.length+3) 0 0 0) c7.length (by omega) (al.refl _ _) ?_ ?_ ?_
  ·refine⟨ver,?_⟩
   simp -implicitDefEqProofs only[↓reduceIte,go_sem,Nat.reduceLT,Nat.reduceEqDiff,dI,h1,h5,h4,List.foldl_nil]
  ·rintro k s H' hk hw ⟨ver,rfl,h1,h5,h15,h16,h17,h4⟩
   have hx:=List.getElem?_eq_getElem hk
   have hl:=dA fR nw (c7.take k) l1
   have hl2:=List.length_take_le k c7
   have hsn:=jI fR l1 c7 k hk
   generalize c7[k]=x at hx hsn
   simp -implicitDefEqProofs only[↓reduceIte,go_sem,ai,aq,Nat.reduceAdd,Nat.reduceLT,Nat.reduceLeDiff,Nat.reduceEqDiff,h15,h16,h17,hk,hx,xS,dI]
   by_cases hop:x.1=1
   ·refine dz (by simp -implicitDefEqProofs only[go_sem,hop]) ?_
    simp -implicitDefEqProofs only[↓reduceIte,go_sem,Nat.reduceLT,Nat.reduceEqDiff,h17]
    refine db.cut [_,_,_,_,_] _ 5 rfl rfl (by simp -implicitDefEqProofs only[go_sem,Nat.reduceLT,hb,fE];simp[jS]) ⟨ver,?_⟩
    simp -implicitDefEqProofs only[↓reduceIte,go_sem,Nat.reduceLT,Nat.reduceEqDiff,dI,h1,h5,h15,h16,h4,hsn,fR,hop,hw]
   ·refine dK (by simp -implicitDefEqProofs only[go_sem,hop]) ?_
    simp -implicitDefEqProofs only[↓reduceIte,go_sem,ai,Nat.reduceAdd,Nat.reduceLT,Nat.reduceEqDiff,h5]
    obtain⟨ver',hd⟩:=gJ x.2 ((c7.take k).foldl fR l1) (by simp at hl hn1;omega) H q ver [.box 103 2 0 1 [iA x.1,iA x.2]]
    refine ag.ok hd ?_
    simp -implicitDefEqProofs only[↓reduceIte,go_sem,Nat.reduceLT,Nat.reduceEqDiff,h17,dI]
    refine db.cut [_,_,_,_,_] _ 5 rfl rfl (by simp -implicitDefEqProofs only[go_sem,Nat.reduceLT,hb,fE];simp[jS]) ⟨ver',?_⟩
    simp -implicitDefEqProofs only[↓reduceIte,go_sem,Nat.reduceLT,Nat.reduceEqDiff,h1,h5,h15,h16,h4,hsn,fR,hop,hw]
  ·rintro s H' ⟨ver,rfl,h1,h5,h15,h16,h17,h4⟩
   generalize hl2:(c7.take c7.length).foldl fR l1=l2
   have hn2:=dA fR nw (c7.take c7.length) l1
   rw[hl2]at hn2
   simp -implicitDefEqProofs only[↓reduceIte,go_sem,ai,Nat.reduceAdd,Nat.reduceLT,Nat.reduceLeDiff,Nat.reduceEqDiff,h1,h16,h17,dI,hq]
   rw[←hq]
   clear h15 h16 h17
   refine aR (fun k s H'=>∃ver,H'=dI H q ((bU.take k).foldl mz l2) ver []∧s 1= .ptr H.length 0 0 0∧s 5= .fn 46 [.ptr (H.length+2) 0 0 0,.ptr (H.length+3) 0 0 0]∧s 41= .d (.list n2 (bU.map wE))∧s 42=iA bU.length∧s 43=iA k∧s 4= .ptr (H.length+3) 0 0 0) bU.length (by omega) (al.refl _ _) ?_ ?_ ?_
   ·refine⟨ver,?_⟩
    simp -implicitDefEqProofs only[↓reduceIte,go_sem,Nat.reduceLT,Nat.reduceEqDiff,dI,h1,h5,h4,List.foldl_nil]
   ·rintro k s H' hk hw ⟨ver,rfl,h1,h5,h15,h16,h17,h4⟩
    have hx:=List.getElem?_eq_getElem hk
    have hl:=dA mz (fun o j=>jf o _) (bU.take k) l2
    have hl2:=List.length_take_le k bU
    have hsn:=jI mz l2 bU k hk
    generalize bU[k]=x at hx hsn
    simp -implicitDefEqProofs only[↓reduceIte,go_sem,ai,aq,Nat.reduceAdd,Nat.reduceLT,Nat.reduceLeDiff,Nat.reduceEqDiff,h5,h15,h16,h17,hk,hx,wE,dI]
    obtain⟨ver',hd⟩:=gJ x.1 ((bU.take k).foldl mz l2) (by simp at hl hn1 hn2;omega) H q ver [.box 105 4 0 1 [iA x.1,.d x.2.1,.d x.2.2.1,.d x.2.2.2]]
    refine ag.ok hd ?_
    simp -implicitDefEqProofs only[↓reduceIte,go_sem,Nat.reduceLT,Nat.reduceEqDiff,h17,dI]
    refine db.cut [_,_,_,_,_] _ 5 rfl rfl (by simp -implicitDefEqProofs only[go_sem,Nat.reduceLT,hb,fE];simp[jS]) ⟨ver',?_⟩
    simp -implicitDefEqProofs only[↓reduceIte,go_sem,Nat.reduceLT,Nat.reduceEqDiff,h1,h5,h15,h16,h4,hsn,mz,hw]
   ·rintro s H' ⟨ver,rfl,h1,h5,h15,h16,h17,h4⟩
    simp -implicitDefEqProofs only[↓reduceIte,go_sem,ai,Nat.reduceLT,Nat.reduceEqDiff,h16,h17,h4,dI]
    refine az.ret ?_
    simp -implicitDefEqProofs only[↓reduceIte,go_sem,Nat.reduceLT]
    rw[←hl2,←hl1]
    simp[v8,cS,aw]
structure Qu where
 table:D
 pred:List Atom
 bU:List (Int×D×D×D)
 bR:List Int
 group:D
 c7:List (Int×Int)
 order:D
 EH:D
def Qu.ds(q:Qu):List D:=[q.table,.list false (q.pred.map Atom.enc),.list false (q.bU.map wE),.list false (ints q.bR),q.group,.list false (q.c7.map xS),q.order,q.EH]
def Qu.av(q:Qu):AV:= .agg (q.ds.map .d)
def Qu.yw(q:Qu):List Int:=v8 q.bR q.c7 q.bU
structure Qu.Ok (q:Qu):Prop where
 pred:q.pred.length≤100
 bU:q.bU.length≤100
 bR:q.bR.length≤100
 c7:q.c7.length≤100
structure Pl where
 proj:Int
 late:Bool
 order:List Int
 rep:Int
 range:Bool
deriving DecidableEq
def Pl.ds(p:Pl):List D:=[iD p.proj,.v (.bool p.late),.list false (ints p.order),iD p.rep,.v (.bool p.range)]
def Pl.av(p:Pl):AV:= .agg (p.ds.map .d)
theorem tI(q:Qu)(hq:q.Ok)(H:aa):ae Tryz.prog 23 [q.av] H (.ok (.d (.list false (ints q.yw)))) H:=
 yf q.bR q.c7 q.bU _ _ _ _ _ _ _ _ (by have:=hq.bR;omega) (by have:=hq.c7;omega) (by have:=hq.bU;omega) H
theorem Qu.Bt(q:Qu)(hq:q.Ok):q.yw.length≤300:=by
 have h1:=dA tell jf q.bR []
 have h2:=dA fR nw q.c7 (q.bR.foldl tell [])
 have h3:=dA mz (fun o j=>jf o _) q.bU (q.c7.foldl fR (q.bR.foldl tell []))
 have:=hq.bR;have:=hq.c7;have:=hq.bU
 unfold Qu.yw v8
 simp at h1
 omega
def eu(o:List Int):List D:=[.list false (ints o)]
def GX(f:Int)(o:List Int):List Int:=o.map fun x=>if f≤x then x+1 else x
def cH:Nat→List (List Int)
 |0=>[[]]
 |n+1=>(upto (n+1)).flatMap fun f=>(cH n).map fun o=>f::GX f o
def b4(n:Nat):List (List Int):=if 4<n then[upto n]else cH n
theorem oo:∀n,n≤4→(cH n).length≤24∧∀o∈cH n,o.length=n∧∀x∈o,0≤x∧x<4:=by decide
def A5:Nat→Int
 |0=>1
 |k+1=>A5 k* (k+2)
def Ee(n:Nat):Nat:=if 4<n then 0 else n-1
theorem vm(n:Nat):(upto n).Nodup:=by
 unfold upto
 rw[List.nodup_iff_pairwise_ne,List.pairwise_map]
 exact List.Pairwise.imp (fun{a b} h e=>h (by omega)) (List.nodup_iff_pairwise_ne.1 List.nodup_range)
theorem p7:∀n,n≤4→(cH n).Nodup∧((cH n).length:Int)=A5 (n-1):=by decide
theorem eC(n:Nat):(b4 n).Nodup∧((b4 n).length:Int)=A5 (Ee n)∧(b4 n).length≤24∧∀o∈b4 n,o.length=n:=by
 unfold b4 Ee
 by_cases h:4<n
 ·rw[if_pos h,if_pos h]
  refine⟨by simp,by simp[A5],by simp,fun o ho=>?_⟩
  rw[List.mem_singleton.1 ho,eL]
 ·rw[if_neg h,if_neg h]
  obtain⟨h1,h2⟩:=p7 n (by omega)
  obtain⟨h3,h4⟩:=oo n (by omega)
  exact⟨h1,h2,h3,fun o ho=>(h4 o ho).1⟩
def ub(n:Nat):Nat→List Int→List (List Int)
 |0,o=>[o]
 |k+1,o=>(upto n).flatMap fun i=>if i∈o then[]else ub n k (o++[i])
theorem C5:∀n,n≤4→ub n n []=cH n:=by decide+kernel
def dh(H:aa)(n:Nat)(L:List (List Int))(ver:Nat)(T:aa):aa:=
 H++ .box 3 1 0 1 [iA n]:: .box 65 1 0 1 [.sl (H.length+3) ver 0 L.length]:: .box 98 1 0 1 [.fn 44 [.ptr H.length 0 0 0,.ptr (H.length+1) 0 0 0,.ptr (H.length+2) 0 0 0]]:: .arr 23 1 ver (L.map eu)::T
theorem wF(n:Nat)(o:List Int)(ho:o.length=n)(hn:0<n)(hn4:n≤4)(L:List (List Int))(hL:L.length≤100000)(nn:Bool)(H:aa)(ver:Nat)(T:aa):
  ae Tryz.prog 44 [.d (.list nn (ints o)),.ptr H.length 0 0 0,.ptr (H.length+1) 0 0 0,.ptr (H.length+2) 0 0 0] (dh H n L ver T) (.ok (.a7 [])) (dh H n (L++[o]) (ver+1) T):=by
 have hm:(L.map eu).length=L.length:=by simp
 have hlen:(((o.length:Nat):Int)=(n:Int))=True:=eq_true (by omega)
 have hfin:dh H n (L++[o]) (ver+1) T=H++ .box 3 1 0 1 [iA n]:: .box 65 1 0 1 [.sl (H.length+3) (ver+1) 0 (L.length+1)]:: .box 98 1 0 1 [.fn 44 [.ptr H.length 0 0 0,.ptr (H.length+1) 0 0 0,.ptr (H.length+2) 0 0 0]]:: .arr 23 1 (ver+1) (L.map eu++[[D.list false (ints o)]])::T:=by
  simp[dh,eu]
 rw[hfin]
 refine ae.ak (hint:=(fun _=>false)) Tryz.func44 (by kernel_rfl) rfl [] (by kernel_rfl) (by decide) (by simp[Tryz.ntmps44]) ?_
 rw[Tryz.ntmps44]
 simp -implicitDefEqProofs only[↓reduceIte,go_sem,ai,Nat.reduceLT,Nat.reduceEqDiff,dh,aw,ho]
 refine gk 4 K.mixed (by kernel_rfl) (by kernel_rfl) ?_
 simp -implicitDefEqProofs only[↓reduceIte,go_sem,ai,Nat.reduceLT,Nat.reduceEqDiff,reduceCtorEq]
 refine ag.ok (dk o nn _ (by omega) (by omega)) ?_
 simp -implicitDefEqProofs only[↓reduceIte,go_sem,aq,Nat.reduceLT,Nat.reduceLeDiff,Nat.reduceEqDiff,hm,List.length_append]
 exact⟨by omega,by omega,_,al.refl _ _,rfl⟩
theorem oh(l:List Int)(n1:Bool)(H:aa)(h0:0<l.length)(hl:l.length≤1000000000000):ae Tryz.prog 45 [.d (.list n1 (ints l))] H (.ok (.sl H.length 1 0 l.length)) (H++[.arr 3 1 1 (ints l)]):=by
 have e1:=jT h0
 refine ae.ak (hint:=(fun _=>false)) Tryz.func45 (by kernel_rfl) rfl [2] (by kernel_rfl) (by decide) (by simp[Tryz.ntmps45]) ?_
 rw[Tryz.ntmps45]
 simp -implicitDefEqProofs only[↓reduceIte,go_sem,Nat.reduceLT,Nat.reduceEqDiff,reduceCtorEq,e1,np,aw]
 refine⟨by omega,by omega,_,al.refl _ _,?_⟩
 simp -implicitDefEqProofs only[↓reduceIte,go_sem,Nat.reduceLT]
theorem wa(H:aa)(n:Nat)(L L':List (List Int))(v v':Nat)(T X:aa)(s:Nat→AV):al (dh H n L v T) s (dh H n L' v' (T++X)) (fun t=>nE (dh H n L' v' (T++X)) (H.length+(4+T.length)) (s t)) (dh H n L' v' T):=by
 have hl0:(dh H n L v T).length=H.length+(4+T.length):=by unfold dh;simp only[List.length_append,List.length_cons];omega
 have hl1:(dh H n L' v' (T++X)).length=H.length+(4+T.length)+X.length:=by unfold dh;simp only[List.length_append,List.length_cons];omega
 have key:=al.sI (H0:=dh H n L v T) s (dh H n L' v' (T++X)) (H.length+(4+T.length)) (by omega) (by omega) ?_
 ·have e:(dh H n L' v' (T++X)).take (H.length+(4+T.length))=dh H n L' v' T:=by
   unfold dh
   rw[List.take_length_add_append,show 4+T.length=T.length+4 from by omega]
   simp
  rwa[e]at key
 ·intro i o hi ho
  rcases Nat.lt_or_ge i H.length with h|h
  ·left
   unfold dh at ho⊢
   rw[List.getElem?_append_left h]at ho⊢
   exact ho
  ·obtain⟨j,rfl⟩:=Nat.exists_eq_add_of_le h
   unfold dh at ho⊢
   rw[List.getElem?_append_right (by omega),Nat.add_sub_cancel_left]at ho⊢
   rcases j with _|_|_|_|j
   ·left;exact ho
   ·right
    simp at ho
    subst ho
    rw[o3]
    simp only[List.all_cons,pf,List.all_nil,Bool.and_true,decide_eq_true_eq]
    omega
   ·left;exact ho
   ·right
    simp at ho
    subst ho
    rfl
   ·left
    simp only[List.getElem?_cons_succ]at ho⊢
    rwa[List.getElem?_append_left (by omega)]at ho
def cG(H:aa)(n:Nat)(M:List (List Int))(T:aa):aa:=dh H n M M.length T
def bL(n k:Nat)(o:List Int)(j:Nat):List (List Int):=(upto j).flatMap fun i=>if i∈o then[]else ub n k (o++[i])
theorem gF(n k:Nat)(o:List Int)(j:Nat):bL n k o (j+1)=bL n k o j++if(j:Int)∈o then[]else ub n k (o++[(j:Int)]):=by simp[bL,ku,List.flatMap_append]
theorem yo(n k:Nat)(hn4:n≤4)(o:List Int)(ho:o.length+(k+1)=n)(h0:0<o.length)(nn:Bool)(H:aa)(b:Nat)
  (ih:∀(i:Int) (L:List (List Int)) (T:aa),L.length≤b→ae Tryz.prog 44 [.d (.list false (ints (o++[i]))),.ptr H.length 0 0 0,.ptr (H.length+1) 0 0 0,.ptr (H.length+2) 0 0 0] (cG H n L T) (.ok (.a7 [])) (cG H n (L++ub n k (o++[i])) T))
  (L:List (List Int)) (hL:∀j,j<n→(L++bL n k o j).length≤b) (T:aa):
  ae Tryz.prog 44 [.d (.list nn (ints o)),.ptr H.length 0 0 0,.ptr (H.length+1) 0 0 0,.ptr (H.length+2) 0 0 0] (cG H n L T) (.ok (.a7 [])) (cG H n (L++bL n k o n) T):=by
 have c1:(((o.length:Nat):Int)=(n:Int))=False:=eq_false (by omega)
 have c2:(o.length=n)=False:=eq_false (by omega)
 generalize hE1:cG H n (L++bL n k o n) T=E1
 refine ae.ak (hint:=(fun _=>false)) Tryz.func44 (by kernel_rfl) rfl [] (by kernel_rfl) (by decide) (by simp[Tryz.ntmps44]) ?_
 rw[Tryz.ntmps44]
 simp -implicitDefEqProofs only[↓reduceIte,go_sem,ai,Nat.reduceLT,Nat.reduceEqDiff,cG,dh,aw,c1]
 refine aR (fun j s H'=>H'=cG H n (L++bL n k o j) T∧s 0= .d (.list nn (ints o))∧s 1= .ptr H.length 0 0 0∧s 2= .ptr (H.length+1) 0 0 0∧s 3= .ptr (H.length+2) 0 0 0∧s 15=iA n∧s 16=iA j) n (by omega) (al.refl _ _) ?_ ?_ ?_
 ·refine⟨?_,?_⟩
  ·simp[bL,upto,cG,dh]
  ·simp -implicitDefEqProofs only[↓reduceIte,go_sem,Nat.reduceLT,Nat.reduceEqDiff,reduceCtorEq]
 ·rintro j s H' hj hw ⟨rfl,t0,t1,t2,t3,t15,t16⟩
  simp -implicitDefEqProofs only[↓reduceIte,go_sem,Nat.reduceLT,Nat.reduceEqDiff,reduceCtorEq,t0,t15,t16,hj]
  refine ag.ok (fg o j nn _ (by omega)) ?_
  have hLj:=hL j hj
  have hsc:=gF n k o j
  by_cases hin:(j:Int)∈o
  ·rw[if_pos hin,List.append_nil]at hsc
   simp -implicitDefEqProofs only[↓reduceIte,go_sem,Nat.reduceLT,Nat.reduceEqDiff,hin,t16]
   refine db.same ⟨by rw[hsc],?_⟩
   simp -implicitDefEqProofs only[↓reduceIte,go_sem,Nat.reduceLT,Nat.reduceEqDiff,reduceCtorEq,t0,t1,t2,t3,t15,hw]
  ·rw[if_neg hin]at hsc
   have hLL:(L++bL n k o j++ub n k (o++[(j:Int)]))=L++bL n k o (j+1):=by rw[hsc,List.append_assoc]
   have hd:=ih j (L++bL n k o j) (T++[.arr 3 1 3 []]) hLj
   rw[hLL]at hd
   have h3:(cG H n (L++bL n k o j) T)[H.length+2]?=some (.box 98 1 0 1 [.fn 44 [.ptr H.length 0 0 0,.ptr (H.length+1) 0 0 0,.ptr (H.length+2) 0 0 0]]):=by simp[cG,dh]
   have hT:cG H n (L++bL n k o j) (T++[.arr 3 1 3 []])=cG H n (L++bL n k o j) T++[.arr 3 1 3 []]:=by simp[cG,dh]
   rw[hT]at hd
   generalize cG H n (L++bL n k o j) T=E at*
   have hlt:H.length+2<E.length:=(List.getElem?_eq_some_iff.1 h3).1
   simp -implicitDefEqProofs only[↓reduceIte,go_sem,Nat.reduceLT,hin]
   refine oM [false,false,true,false,false,true] K.mixed (by kernel_rfl) (by kernel_rfl) (by kernel_rfl) ?_
   simp -implicitDefEqProofs only[↓reduceIte,go_sem,ai,Nat.reduceLT,Nat.reduceEqDiff,reduceCtorEq,t0,t3,h3]
   refine ag.ok (oh o nn E h0 (by omega)) ?_
   simp -implicitDefEqProofs only[↓reduceIte,go_sem,Nat.reduceAdd,Nat.reduceLT,Nat.reduceLeDiff,Nat.reduceEqDiff,aw,gd]
   refine⟨Ext.app _ _,by omega,by omega,Ext.app _ _,?_⟩
   have e2:(E++[aA.arr 3 1 2 (ints (o++[(j:Int)]))]).set E.length (.arr 3 1 3 [])=E++[.arr 3 1 3 []]:=by simp
   refine ag.nE [] (e:=3) (k:=1) (ver:=2) (es:=ints (o++[(j:Int)])) (by simp) (by rw[List.drop_zero,List.take_of_length_le (by rw[aw];simp),e2];exact hd) ?_
   simp -implicitDefEqProofs only[↓reduceIte,go_sem,Nat.reduceLT,Nat.reduceEqDiff,t16]
   refine⟨_,_,wa H n L (L++bL n k o (j+1)) L.length (L++bL n k o (j+1)).length T [.arr 3 1 3 []] _,rfl,?_⟩
   have q1:H.length<H.length+(4+T.length):=by omega
   have q2:H.length+1<H.length+(4+T.length):=by omega
   have q3:H.length+2<H.length+(4+T.length):=by omega
   simp -implicitDefEqProofs only[↓reduceIte,go_sem,Nat.reduceLT,Nat.reduceEqDiff,reduceCtorEq,t0,t1,t2,t3,t15,hw,q1,q2,q3]
 ·rintro s H' ⟨rfl,t0,t1,t2,t3,t15,t16⟩
  rw[hE1]
  simp -implicitDefEqProofs only[↓reduceIte,go_sem,Nat.reduceLT,t15,t16]
  exact⟨_,al.refl _ _,rfl⟩
theorem yu(n k:Nat)(hn4:n≤4)(ho:k+1=n)(H:aa)(b:Nat)
  (ih:∀(i:Int) (L:List (List Int)) (T:aa),L.length≤b→ae Tryz.prog 44 [.d (.list false (ints [i])),.ptr H.length 0 0 0,.ptr (H.length+1) 0 0 0,.ptr (H.length+2) 0 0 0] (cG H n L T) (.ok (.a7 [])) (cG H n (L++ub n k [i]) T))
  (L:List (List Int)) (hL:∀j,j<n→(L++bL n k [] j).length≤b) (T:aa):
  ae Tryz.prog 44 [.d (.v (.slice none 0 0)),.ptr H.length 0 0 0,.ptr (H.length+1) 0 0 0,.ptr (H.length+2) 0 0 0] (cG H n L T) (.ok (.a7 [])) (cG H n (L++bL n k [] n) T):=by
 have c1:((0:Int)=(n:Int))=False:=eq_false (by omega)
 have c2:(0=n)=False:=eq_false (by omega)
 generalize hE1:cG H n (L++bL n k [] n) T=E1
 refine ae.ak (hint:=(fun _=>false)) Tryz.func44 (by kernel_rfl) rfl [] (by kernel_rfl) (by decide) (by simp[Tryz.ntmps44]) ?_
 rw[Tryz.ntmps44]
 simp -implicitDefEqProofs only[↓reduceIte,go_sem,ai,Nat.reduceLT,Nat.reduceEqDiff,cG,dh,c1]
 refine aR (fun j s H'=>H'=cG H n (L++bL n k [] j) T∧s 0= .d (.v (.slice none 0 0))∧s 1= .ptr H.length 0 0 0∧s 2= .ptr (H.length+1) 0 0 0∧s 3= .ptr (H.length+2) 0 0 0∧s 15=iA n∧s 16=iA j) n (by omega) (al.refl _ _) ?_ ?_ ?_
 ·refine⟨?_,?_⟩
  ·simp[bL,upto,cG,dh]
  ·simp -implicitDefEqProofs only[↓reduceIte,go_sem,Nat.reduceLT,Nat.reduceEqDiff,reduceCtorEq]
 ·rintro j s H' hj hw ⟨rfl,t0,t1,t2,t3,t15,t16⟩
  simp -implicitDefEqProofs only[↓reduceIte,go_sem,Nat.reduceLT,Nat.reduceEqDiff,reduceCtorEq,t0,t15,t16,hj]
  refine ag.sub (.cons .nil (.cons (.refl _) .nil)) (fg [] j false _ (by simp)) ?_
  have hLj:=hL j hj
  have hsc:=gF n k [] j
  have hin:¬(j:Int)∈([]:List Int):=by simp
  ·rw[if_neg hin]at hsc
   have hLL:(L++bL n k [] j++ub n k [(j:Int)])=L++bL n k [] (j+1):=by rw[hsc,List.append_assoc];rfl
   have hd:=ih j (L++bL n k [] j) (T++[.arr 3 1 2 []]) hLj
   rw[hLL]at hd
   have h3:(cG H n (L++bL n k [] j) T)[H.length+2]?=some (.box 98 1 0 1 [.fn 44 [.ptr H.length 0 0 0,.ptr (H.length+1) 0 0 0,.ptr (H.length+2) 0 0 0]]):=by simp[cG,dh]
   have hT:cG H n (L++bL n k [] j) (T++[.arr 3 1 2 []])=cG H n (L++bL n k [] j) T++[.arr 3 1 2 []]:=by simp[cG,dh]
   rw[hT]at hd
   generalize cG H n (L++bL n k [] j) T=E at*
   have hlt:H.length+2<E.length:=(List.getElem?_eq_some_iff.1 h3).1
   simp -implicitDefEqProofs only[↓reduceIte,go_sem,Nat.reduceLT,List.not_mem_nil]
   refine oM [false,false,true,false,false,true] K.mixed (by kernel_rfl) (by kernel_rfl) (by kernel_rfl) ?_
   simp -implicitDefEqProofs only[↓reduceIte,go_sem,ai,Nat.reduceLT,Nat.reduceEqDiff,reduceCtorEq,t0,t3,h3]
   refine ag.ok (ck E) ?_
   simp -implicitDefEqProofs only[↓reduceIte,go_sem,Nat.reduceLT,Nat.reduceLeDiff,Nat.reduceEqDiff]
   refine⟨Ext.refl _,Ext.app _ _,?_⟩
   have e2:(E++[aA.arr 3 1 1 [[.v (.int .i64 (j:Int))]]]).set E.length (.arr 3 1 2 [])=E++[.arr 3 1 2 []]:=by simp
   refine ag.nE [] (e:=3) (k:=1) (ver:=1) (es:=[[.v (.int .i64 (j:Int))]]) (by simp) (by rw[e2];exact hd) ?_
   simp -implicitDefEqProofs only[↓reduceIte,go_sem,Nat.reduceLT,Nat.reduceEqDiff,t16]
   refine⟨_,_,wa H n L (L++bL n k [] (j+1)) L.length (L++bL n k [] (j+1)).length T [.arr 3 1 2 []] _,rfl,?_⟩
   have q1:H.length<H.length+(4+T.length):=by omega
   have q2:H.length+1<H.length+(4+T.length):=by omega
   have q3:H.length+2<H.length+(4+T.length):=by omega
   simp -implicitDefEqProofs only[↓reduceIte,go_sem,Nat.reduceLT,Nat.reduceEqDiff,reduceCtorEq,t0,t1,t2,t3,t15,hw,q1,q2,q3]
 ·rintro s H' ⟨rfl,t0,t1,t2,t3,t15,t16⟩
  rw[hE1]
  simp -implicitDefEqProofs only[↓reduceIte,go_sem,Nat.reduceLT,t15,t16]
  exact⟨_,al.refl _ _,rfl⟩
theorem wi(n:Nat)(hn:n≤4):∀(k:Nat) (o:List Int),(ub n k o).length≤4^k
 |0,o=>by simp[ub]
 |k+1,o=>by
  have:∀j,(bL n k o j).length≤j* 4^k:=by
   intro j
   induction j with
   |zero=>simp[bL,upto]
   |succ j ih=>
    rw[gF,List.length_append,Nat.succ_mul]
    have:=wi n hn k (o++[(j:Int)])
    split
    ·simp;omega
    ·omega
  have h:=this n
  have e:ub n (k+1) o=bL n k o n:=rfl
  rw[e,Nat.pow_succ,Nat.mul_comm]
  exact Nat.le_trans h (Nat.mul_le_mul_right _ hn)
theorem pj(n:Nat)(hn:n≤4)(k:Nat)(o:List Int):∀j,(bL n k o j).length≤j* 4^k:=by
 intro j
 induction j with
 |zero=>simp[bL,upto]
 |succ j ih=>
  rw[gF,List.length_append,Nat.succ_mul]
  have:=wi n hn k (o++[(j:Int)])
  split
  ·simp;omega
  ·omega
theorem oC(n:Nat)(hn:0<n)(hn4:n≤4)(H:aa):∀(k:Nat) (o:List Int) (nn:Bool) (L:List (List Int)) (T:aa),o.length+k=n→0<o.length→L.length≤100000-4^k→k≤4→
  ae Tryz.prog 44 [.d (.list nn (ints o)),.ptr H.length 0 0 0,.ptr (H.length+1) 0 0 0,.ptr (H.length+2) 0 0 0] (cG H n L T) (.ok (.a7 [])) (cG H n (L++ub n k o) T)
 |0,o,nn,L,T,ho,h0,hL,_=>by
  have:=wF n o (by omega) hn hn4 L (by omega) nn H L.length T
  have e:(L++ub n 0 o).length=L.length+1:=by simp[ub]
  unfold cG
  rw[e]
  exact this
 |k+1,o,nn,L,T,ho,h0,hL,hk=>by
  have hp:4^k≤256:=by
   have:k≤4:=by omega
   rcases k with _|_|_|_|_|k<;>first|decide|omega
  refine yo n k hn4 o ho h0 nn H (100000-4^k) (fun i L T hL=>oC n hn hn4 H k (o++[i]) false L T (by simp;omega) (by simp) hL (by omega)) L (fun j hj=>?_) T
  have:=pj n hn4 k o j
  have h2:j* 4^k≤3* 4^k:=Nat.mul_le_mul_right _ (by omega)
  rw[Nat.pow_succ]at hL
  rw[List.length_append]
  omega
theorem wV(n:Nat)(hn:0<n)(hn4:n≤4)(H T:aa):
  ae Tryz.prog 44 [.d (.v (.slice none 0 0)),.ptr H.length 0 0 0,.ptr (H.length+1) 0 0 0,.ptr (H.length+2) 0 0 0] (cG H n [] T) (.ok (.a7 [])) (cG H n (ub n n []) T):=by
 obtain⟨k,rfl⟩:∃k,n=k+1:=⟨n-1,by omega⟩
 have hp:4^k≤64:=by
  have:k≤3:=by omega
  rcases k with _|_|_|_|k<;>first|decide|omega
 refine yu (k+1) k hn4 rfl H (100000-4^k) (fun i L T hL=>oC (k+1) hn hn4 H k [i] false L T (by simp;omega) (by simp) hL (by omega)) [] (fun j hj=>?_) T
 have:=pj (k+1) hn4 k [] j
 have h2:j* 4^k≤4* 4^k:=Nat.mul_le_mul_right _ (by omega)
 rw[List.nil_append]
 omega
theorem l8(n:Nat)(hn:4<n)(hm:n≤1000)(H:aa):ae Tryz.prog 22 [iA n] H (.ok (.d (.list true ([upto n].map eu)))) H:=by
 have c1:((n:Int)<0)=False:=eq_false (by omega)
 have c2:((4:Int)<(n:Int))=True:=eq_true (by omega)
 refine ae.ak (hint:=(fun _=>false)) Tryz.func22 (by kernel_rfl) rfl [2] (by kernel_rfl) (by decide) (by simp[Tryz.ntmps22]) ?_
 rw[Tryz.ntmps22]
 simp -implicitDefEqProofs only[↓reduceIte,go_sem,ai,Nat.reduceLT,Nat.reduceEqDiff,c1,c2]
 refine ag.ok (lC n (by omega) _) ?_
 simp -implicitDefEqProofs only[↓reduceIte,go_sem,Nat.reduceLT,Nat.reduceLeDiff]
 refine az.ret ?_
 simp -implicitDefEqProofs only[↓reduceIte,go_sem,Nat.reduceLT,eu]
theorem gV(n:Nat)(hn:0<n)(hn4:n≤4)(H:aa):ae Tryz.prog 22 [iA n] H (.ok (.d (.list false ((cH n).map eu)))) H:=by
 have c1:((n:Int)<0)=False:=eq_false (by omega)
 have c2:((4:Int)<(n:Int))=False:=eq_false (by omega)
 have c3:(4<n)=False:=eq_false (by omega)
 have hr:=wV n hn hn4 H []
 rw[C5 n hn4]at hr
 generalize cH n=S at hr⊢
 refine ae.ak (hint:=(fun t=>t==1000008)) Tryz.func22 (by kernel_rfl) rfl [2] (by kernel_rfl) (by decide) (by simp[Tryz.ntmps22]) ?_
 rw[Tryz.ntmps22]
 simp -implicitDefEqProofs only[↓reduceIte,go_sem,ai,aq,Nat.reduceAdd,Nat.reduceLT,Nat.reduceEqDiff,Nat.reduceBEq,c1,c2]
 refine⟨_,_,al.dg _ (H++[.box 3 1 0 1 [iA n],.box 65 1 0 1 [.d (.v (.slice none 0 0))],.box 98 1 0 1 [.fn 44 [.ptr H.length 0 0 0,.ptr (H.length+1) 0 0 0,.ptr (H.length+2) 0 0 0]]]) (H.length+1) 65 1 0 1 [.d (.v (.slice none 0 0))] 0 (.d (.v (.slice none 0 0))) 23 1 (by decide) (by simp[]) rfl rfl,?_⟩
 simp -implicitDefEqProofs only[↓reduceIte,go_sem,ai,Nat.reduceAdd,Nat.reduceLT,Nat.reduceEqDiff]
 refine ag.ok (r:= .a7 []) (H':=cG H n S []) (by exact hr) ?_
 simp -implicitDefEqProofs only[↓reduceIte,go_sem,ai,Nat.reduceAdd,Nat.reduceLT,Nat.reduceEqDiff,Nat.reduceBEq,cG,dh]
 refine az.ret ?_
 simp -implicitDefEqProofs only[↓reduceIte,go_sem,Nat.reduceLT,cS]
theorem ae.Be{P:Program}{f:FuncId}{args:List AV}{H H':aa}{b:Bool}(h:ae P f args H (.ok (.d (.list b [[.v (.slice none 0 0)]]))) H'):ae P f args H (.ok (.d (.list b [[.list false []]]))) H':=by
 intro φ N w vals hR hA
 have go:∀e' w',(∃φ' N',Rel H' φ' N' w'∧ar H φ N w H' φ' N' w'∧qv H' φ' N' w' (.ok (.d (.list b [[.v (.slice none 0 0)]]))) e')→∃φ' N',Rel H' φ' N' w'∧ar H φ N w H' φ' N' w'∧qv H' φ' N' w' (.ok (.d (.list b [[.list false []]]))) e':=by
  rintro e' w' ⟨φ',N',hR',hS',hE⟩
  refine⟨φ',N',hR',hS',?_⟩
  cases e' with
  |returned v=>
   have hE:RA H' φ' N' w' (.d (.list b [[.v (.slice none 0 0)]])) v:=hE
   show RA H' φ' N' w' (.d (.list b [[.list false []]])) v
   cases hE with
   |d hd=>
    cases hd with
    |list nn es ad cap k c hc hk hcell hd=>
     refine .d (.list b [[.list false []]] ad cap k c hc (fun e he=>?_) (fun i j hi hj=>hcell i j hi hj) fun i hi j hj=>?_)
     ·have:=hk [.v (.slice none 0 0)] (by simp)
      simp at he
      subst he
      simpa using this
     ·have hi0:i=0:=by simp at hi;omega
      subst hi0
      have hj0:j=0:=by simp at hj;omega
      subst hj0
      have:=hd 0 (by simp) 0 (by simp)
      simp only[List.getElem_cons_zero]at this⊢
      generalize c 0 0=u at this⊢
      cases this with
      |v _ hx=>exact .nil none 0 fun _=>rfl
  |panicked ps=>exact hE
  |_=>exact hE
 rcases h φ N w vals hR hA with⟨h5,h6⟩|⟨v,w',h5,h6⟩
 ·exact .inl ⟨h5,h6.mono go⟩
 ·exact .inr ⟨v,w',h5,go _ _ h6⟩
theorem tV(H:aa):ae Tryz.prog 44 [.d (.v (.slice none 0 0)),.ptr H.length 0 0 0,.ptr (H.length+1) 0 0 0,.ptr (H.length+2) 0 0 0] (cG H 0 [] []) (.ok (.a7 []))
  (H++[.box 3 1 0 1 [iA 0],.box 65 1 0 1 [.sl (H.length+3) 1 0 1],.box 98 1 0 1 [.fn 44 [.ptr H.length 0 0 0,.ptr (H.length+1) 0 0 0,.ptr (H.length+2) 0 0 0]],.arr 23 1 1 [[.v (.slice none 0 0)]]]):=by
 refine ae.ak (hint:=(fun _=>false)) Tryz.func44 (by kernel_rfl) rfl [] (by kernel_rfl) (by decide) (by simp[Tryz.ntmps44]) ?_
 rw[Tryz.ntmps44]
 simp -implicitDefEqProofs only[↓reduceIte,go_sem,ai,Nat.reduceLT,Nat.reduceEqDiff,cG,dh,List.map_nil]
 refine gk 4 K.mixed (by kernel_rfl) (by kernel_rfl) ?_
 simp -implicitDefEqProofs only[↓reduceIte,go_sem,ai,Nat.reduceLT,Nat.reduceEqDiff,reduceCtorEq]
 refine ag.ok (ck _) ?_
 simp -implicitDefEqProofs only[↓reduceIte,go_sem,aq,Nat.reduceAdd,Nat.reduceLT,Nat.reduceLeDiff,Nat.reduceEqDiff]
 exact⟨_,al.refl _ _,rfl⟩
theorem gj(H:aa):ae Tryz.prog 22 [iA 0] H (.ok (.d (.list false ((cH 0).map eu)))) H:=by
 refine ae.Be ?_
 have hr:=tV H
 refine ae.ak (hint:=(fun t=>t==1000008)) Tryz.func22 (by kernel_rfl) rfl [2] (by kernel_rfl) (by decide) (by simp[Tryz.ntmps22]) ?_
 rw[Tryz.ntmps22]
 simp -implicitDefEqProofs only[↓reduceIte,go_sem,ai,aq,Nat.reduceAdd,Nat.reduceLT,Nat.reduceEqDiff,Nat.reduceBEq,Int.reduceLT]
 refine⟨_,_,al.dg _ (H++[.box 3 1 0 1 [iA 0],.box 65 1 0 1 [.d (.v (.slice none 0 0))],.box 98 1 0 1 [.fn 44 [.ptr H.length 0 0 0,.ptr (H.length+1) 0 0 0,.ptr (H.length+2) 0 0 0]]]) (H.length+1) 65 1 0 1 [.d (.v (.slice none 0 0))] 0 (.d (.v (.slice none 0 0))) 23 1 (by decide) (by simp[]) rfl rfl,?_⟩
 simp -implicitDefEqProofs only[↓reduceIte,go_sem,ai,Nat.reduceAdd,Nat.reduceLT,Nat.reduceEqDiff]
 refine ag.ok (by exact hr) ?_
 simp -implicitDefEqProofs only[↓reduceIte,go_sem,ai,Nat.reduceAdd,Nat.reduceLT,Nat.reduceEqDiff,Nat.reduceBEq]
 refine az.ret ?_
 simp -implicitDefEqProofs only[↓reduceIte,go_sem,Nat.reduceLT]
theorem ld(n:Nat)(hm:n≤1000):∃nn,∀H:aa,ae Tryz.prog 22 [iA n] H (.ok (.d (.list nn ((b4 n).map eu)))) H:=by
 unfold b4
 by_cases h4:4<n
 ·rw[if_pos h4];exact⟨true,fun H=>l8 n h4 hm H⟩
 ·rw[if_neg h4]
  rcases n with _|n
  ·exact⟨false,fun H=>gj H⟩
  ·exact⟨false,fun H=>gV (n+1) (by omega) (by omega) H⟩
theorem qP(H:aa):ae Tryz.prog 8 [] H (.ok (bA true)) H:=by
 have e3:(cH 3).map eu=[eu [0,1,2],eu [0,2,1],eu [1,0,2],eu [1,2,0],eu [2,0,1],eu [2,1,0]]:=by
  rw[show cH 3=[[0,1,2],[0,2,1],[1,0,2],[1,2,0],[2,0,1],[2,1,0]]from by decide];rfl
 have e0:(cH 0).map eu=[[.list false []]]:=rfl
 have h3:=gV 3 (by decide) (by decide) H
 rw[e3]at h3
 refine ae.ak (hint:=(fun _=>false)) Tryz.func8 (by kernel_rfl) rfl [0] (by kernel_rfl) (by decide) (by simp[Tryz.ntmps8]) ?_
 rw[Tryz.ntmps8]
 simp -implicitDefEqProofs only[go_sem]
 refine ag.ok h3 ?_
 simp -implicitDefEqProofs only[↓reduceIte,go_sem,Nat.reduceAdd,Nat.reduceLT,Nat.reduceLeDiff,Nat.reduceEqDiff,Int.reduceLE,Int.reduceToNat,eu]
 refine ag.ok (rJ [1,2,0] [1,2,0] false true H (by decide)) ?_
 simp -implicitDefEqProofs only[↓reduceIte,go_sem,Nat.reduceLT,Nat.reduceEqDiff]
 refine ag.ok (gj H) ?_
 rw[e0]
 simp -implicitDefEqProofs only[↓reduceIte,go_sem,Nat.reduceLT,Nat.reduceEqDiff]
 refine az.aW ?_
 simp -implicitDefEqProofs only[↓reduceIte,go_sem,Nat.reduceLT]
def eE(p:Pj)(q:Qu):Bool:= !(q.yw.any fun c=> !decide (c∈p.bR))&& !(q.pred.any fun a=> !decide (a.A1∈p.bR))
abbrev pB(p:Pj):aA:= .box 49 4 0 1 (p.ds.map .d)
abbrev qB(q:Qu):aA:= .box 31 8 0 1 (q.ds.map .d)
theorem j8(p:Pj)(hp:p.bR.length≤1000000000)(c:Int)(i:Nat)(H:aa)(hi:H[i]?=some (pB p)):ae Tryz.prog 29 [iA c,.ptr i 0 0 0] H (.ok (bA (!decide (c∈p.bR)))) H:=by
 refine ae.ak (hint:=(fun _=>false)) Tryz.func29 (by kernel_rfl) rfl [3] (by kernel_rfl) (by decide) (by simp[Tryz.ntmps29]) ?_
 rw[Tryz.ntmps29]
 simp -implicitDefEqProofs only[↓reduceIte,go_sem,ai,Nat.reduceAdd,Nat.reduceLT,Nat.reduceLeDiff,Nat.reduceEqDiff,reduceCtorEq,hi,Pj.ds]
 refine ag.ok (fg p.bR c false _ (by omega)) ?_
 simp -implicitDefEqProofs only[↓reduceIte,go_sem,Nat.reduceLT]
 refine az.aW ?_
 simp -implicitDefEqProofs only[↓reduceIte,go_sem,Nat.reduceLT]
theorem pM(p:Pj)(hp:p.bR.length≤1000000000)(a:Atom)(i j:Nat)(H:aa)(hi:H[i]?=some (pB p))(hj:H[j]?=some (.box 81 1 0 1 [.fn 29 [.ptr i 0 0 0]])):
  ae Tryz.prog 33 [a.av,.ptr j 0 0 0] H (.ok (bA (!decide (a.A1∈p.bR)))) H:=by
 have hj2:=fun T=>tD hj T
 refine ae.ak (hint:=(fun _=>false)) Tryz.func33 (by kernel_rfl) rfl [3] (by kernel_rfl) (by decide) (by simp[Tryz.ntmps33]) ?_
 rw[Tryz.ntmps33]
 simp -implicitDefEqProofs only[↓reduceIte,go_sem,ai,Nat.reduceAdd,Nat.reduceLT,Nat.reduceLeDiff,Nat.reduceEqDiff,hj2]
 refine ag.ok (j8 p hp a.A1 i _ (tD hi _)) ?_
 simp -implicitDefEqProofs only[↓reduceIte,go_sem,Nat.reduceLT]
 refine az.ret ?_
 simp -implicitDefEqProofs only[↓reduceIte,go_sem,Nat.reduceLT]
theorem tf(p:Pj)(hp:p.bR.length≤1000000000)(q:Qu)(hq:q.Ok)(H:aa):ae Tryz.prog 13 [p.av,q.av] H (.ok (bA (eE p q))) H:=by
 have hn:=fun H=>tI q hq H
 have hnl:=q.Bt hq
 have hpl:=hq.pred
 unfold eE
 have h1:=fun(n1:Bool) G (hg:G[H.length]?=some (pB p))=>ej q.yw (fun c=> !decide (c∈p.bR)) 29 [.ptr H.length 0 0 0] n1 G (by omega) fun c _=>j8 p hp c _ _ hg
 have h2:=fun(n1:Bool) G (hg:G[H.length]?=some (pB p)) (hg2:G[H.length+2]?=some (.box 81 1 0 1 [.fn 29 [.ptr H.length 0 0 0]]))=>nu q.pred (fun a=> !decide (a.A1∈p.bR)) 33 [.ptr (H.length+2) 0 0 0] n1 G (by omega) fun a _=>pM p hp a H.length _ _ hg hg2
 generalize (q.yw.any fun c=> !decide (c∈p.bR))=b1 at*
 generalize (q.pred.any fun a=> !decide (a.A1∈p.bR))=b2 at*
 refine ae.ak (hint:=(fun _=>false)) Tryz.func13 (by kernel_rfl) rfl [4] (by kernel_rfl) (by decide) (by simp[Tryz.ntmps13]) ?_
 rw[Tryz.ntmps13]
 simp -implicitDefEqProofs only[↓reduceIte,go_sem,aq,Nat.reduceAdd,Nat.reduceLT,Nat.reduceEqDiff,Pj.av,Pj.ds,Qu.av,Qu.ds]
 refine ba K.mixed (by kernel_rfl) ?_
 simp -implicitDefEqProofs only[↓reduceIte,go_sem,ai,Nat.reduceAdd,Nat.reduceLT,Nat.reduceEqDiff]
 refine ag.ok (hn _) ?_
 simp -implicitDefEqProofs only[↓reduceIte,go_sem,ai,Nat.reduceLT,Nat.reduceEqDiff]
 refine ag.ok (h1 _ _ (by simp[Pj.ds])) ?_
 cases b1
 case' false=>
  simp -implicitDefEqProofs only[↓reduceIte,go_sem,ai,Nat.reduceAdd,Nat.reduceLT,Nat.reduceLeDiff,Nat.reduceEqDiff]
  refine ag.ok (h2 _ _ (by simp[Pj.ds]) (by simp)) ?_
 all_goals
  simp -implicitDefEqProofs only[↓reduceIte,go_sem,Nat.reduceLT,Nat.reduceEqDiff,reduceCtorEq]
  refine az.ret ?_
  simp -implicitDefEqProofs only[↓reduceIte,go_sem,Nat.reduceLT]<;>simp
structure Fl where
 kinds:List Int
 projs:List Pj
def Fl.ds(f:Fl):List D:=[.list false (ints f.kinds),.list false (f.projs.map Pj.ds)]
def Fl.av(f:Fl):AV:= .agg (f.ds.map .d)
abbrev fB(f:Fl):aA:= .box 35 2 0 1 (f.ds.map .d)
structure Fl.Ok (f:Fl):Prop where
 len:f.projs.length≤1000000
 all:∀p∈f.projs,p.Ok
def cK(q:Qu):List Bool:=if 0<q.bU.length then[false,true]else[false]
abbrev rB(q:Qu):aA:= .box 44 1 0 1 [.d (.list false ((cK q).map fun b=>[.v (.bool b)]))]
theorem n4(f:Fl)(q:Qu)(hq:q.Ok)(H:aa):∃v,ae Tryz.prog 28 [f.av,q.av] H (.ok (.fn 54 [.ptr H.length 0 0 0,.ptr (H.length+1) 0 0 0,.ptr (H.length+3) 0 0 0])) (H++[fB f,qB q,.arr 4 1 v [],rB q]):=by
 have hjl:=hq.bU
 by_cases hj:0<(q.bU.length:Int)
 ·refine⟨2,?_⟩
  have hr:cK q=[false,true]:=if_pos (by omega)
  unfold rB
  rw[hr]
  refine ae.ak (hint:=(fun t=>t==6||t==1000004)) Tryz.func28 (by kernel_rfl) rfl [4] (by kernel_rfl) (by decide) (by simp[Tryz.ntmps28]) ?_
  rw[Tryz.ntmps28]
  simp -implicitDefEqProofs only[↓reduceIte,go_sem,ai,aq,Nat.reduceAdd,Nat.reduceLT,Nat.reduceLeDiff,Nat.reduceEqDiff,Nat.reduceBEq,Fl.av,Fl.ds,Qu.av,Qu.ds,List.length_map,hj]
  refine⟨_,_,al.lk _ _ (H.length+3) 1 0 1 0 (H.length+2) 1 0 2 1 44 4 [.sl (H.length+2) 1 0 2] [[.v (.bool false)],[.v (.bool true)]] (by simp -implicitDefEqProofs only[go_sem]) rfl (by simp -implicitDefEqProofs only[go_sem]),?_⟩
  simp -implicitDefEqProofs only[go_sem,Nat.reduceAdd]
  exact⟨_,al.refl _ _,rfl⟩
 ·refine⟨1,?_⟩
  have hr:cK q=[false]:=if_neg (by omega)
  unfold rB
  rw[hr]
  refine ae.ak (hint:=(fun t=>t==6||t==1000004)) Tryz.func28 (by kernel_rfl) rfl [4] (by kernel_rfl) (by decide) (by simp[Tryz.ntmps28]) ?_
  rw[Tryz.ntmps28]
  simp -implicitDefEqProofs only[↓reduceIte,go_sem,ai,aq,Nat.reduceAdd,Nat.reduceLT,Nat.reduceLeDiff,Nat.reduceEqDiff,Nat.reduceBEq,Fl.av,Fl.ds,Qu.av,Qu.ds,List.length_map,hj]
  refine⟨_,_,al.lk _ _ (H.length+3) 1 0 1 0 (H.length+2) 0 0 1 1 44 4 [.sl (H.length+2) 0 0 1] [[.v (.bool false)]] (by simp -implicitDefEqProofs only[go_sem]) rfl (by simp -implicitDefEqProofs only[go_sem]),?_⟩
  simp -implicitDefEqProofs only[go_sem]
  exact⟨_,al.refl _ _,rfl⟩
theorem Av{b c:Nat}{d:D}(hc:0<c)(h:Fits (.slice b [.slice c sO]) d):∃R:List (List aj),d= .list false (bu R)∧R.length* b≤140737488351232∧∀r∈R,r.length* c≤140737488351232∧∀v∈r,v.Ok:=by
 obtain⟨l,rfl,h1,h2⟩:=Fits.eF h
 obtain⟨la,rfl,h3⟩:=gK (enc:=cA) (p:=fun r=>r.length* c≤140737488351232∧∀v∈r,v.Ok) fun e he=>by
  obtain⟨x,xs,rfl,hx,h⟩:=aO.cons_inv (h2 e he)
  cases aO.gI h
  obtain⟨r,rfl,hl,hr⟩:=Af hx
  exact⟨r,rfl,hl,hr⟩
 exact⟨la,rfl,by simpa using h1,h3⟩
structure yO (R:List (List aj)):Prop where
 len:R.length≤100000000000000
 row:∀r∈R,r.length≤100000000000000
 val:∀r∈R,∀v∈r,v.Ok
theorem mc{d:D}(h:Fits (.slice 24 [.slice 32 sO]) d):∃R:List (List aj),d= .list false (bu R)∧yO R:=by
 obtain⟨R,rfl,hl,hn⟩:=Av (by decide) h
 exact⟨R,rfl,by omega,fun r hr=>by have:=(hn r hr).1;omega,fun r hr=>(hn r hr).2⟩
structure hZ where
 rows:List (List aj)
 kinds:List Int
 c0:List Int
 c1:List Int
 k0:List Int
 k1:List Int
def hZ.ds(t:hZ):List D:=[.list false (bu t.rows),.list false (ints t.kinds),.list false (ints t.c0),.list false (ints t.c1),.list false (ints t.k0),.list false (ints t.k1)]
def hZ.av(t:hZ):AV:= .agg (t.ds.map .d)
structure hZ.Ok (t:hZ):Prop where
 rows:yO t.rows
 kinds:t.kinds.length≤100000000000000
def nV(R:List (List aj))(ks c y:List Int):List Pj:=if 20<c.length∨20<y.length then[]else if(fA R ks c y 0).2=0 then[(fA R ks c y 0).1]else[]
def kD(ks:List Int):List Int:=upto (min ks.length 9)
def cZ(t:hZ)(k:Nat):List Pj:=(fA t.rows t.kinds (kD t.kinds) [] 0).1::((if 0<k then nV t.rows t.kinds t.c0 t.k0 else[])++(if 1<k then nV t.rows t.kinds t.c1 t.k1 else[]))
def pX(t:hZ):Fl×Bool:=if cq 300 20000 t.rows=true∧(fA t.rows t.kinds (kD t.kinds) [] 0).2=0 then(⟨t.kinds,cZ t 2⟩,true)else(⟨[],[]⟩,false)
theorem qZ(R:List (List aj))(ks c y:List Int):(nV R ks c y).length≤1:=by unfold nV;split<;>(try split)<;>simp
theorem iC(t:hZ)(k:Nat):(cZ t k).length≤3:=by
 have h1:=qZ t.rows t.kinds t.c0 t.k0
 have h2:=qZ t.rows t.kinds t.c1 t.k1
 unfold cZ
 split<;>split<;>simp<;>omega
theorem wh:Sub (.agg [.d (.v (.slice none 0 0)),.d (.v (.slice none 0 0))]) (Fl.av ⟨[],[]⟩):= .agg (.cons .nil (.cons .nil .nil))
theorem wJ(t:hZ)(ht:t.Ok)(H:aa):ae Tryz.prog 9 [t.av] H (.ok (.a7 [(pX t).1.av,bA (pX t).2])) H:=by
 have hfw:=fun H=>uM t.rows false ht.rows.len ht.rows.row (fun r hr v hv=>(ht.rows.val r hr v hv).s) H
 have hmk:=fun(hf:cq 300 20000 t.rows=true) c y (hc:c.length≤20) (hy:y.length≤20) H=>uG t.rows t.kinds c y 0 false false false false H (by have:=(jU hf).1;omega) (fun r hr=>by have:=(jU hf).2 r hr;omega) ht.kinds (by omega) (by omega) (fun r hr v hv=>(ht.rows.val r hr v hv).i)
 have hkl:=ht.kinds
 have hP0:cZ t 0=[(fA t.rows t.kinds (kD t.kinds) [] 0).1]:=rfl
 have hP1:cZ t 1=cZ t 0++nV t.rows t.kinds t.c0 t.k0:=by simp[cZ]
 have hP2:cZ t 2=cZ t 1++nV t.rows t.kinds t.c1 t.k1:=by simp[cZ]
 have hPl:=iC t
 have hal:(kD t.kinds).length=min t.kinds.length 9:=eL _
 have hae:kD t.kinds=upto (min t.kinds.length 9):=rfl
 unfold pX
 generalize cZ t=P at*
 obtain⟨R,ks,c0,c1,k0,k1⟩:=t
 simp only at*
 by_cases hf:cq 300 20000 R=true
 case neg=>
  rw[if_neg (fun h=>hf h.1)]
  rw[show cq 300 20000 R=false by simpa using hf]at hfw
  refine ae.jj (cs:=[.agg [.d (.v (.slice none 0 0)),.d (.v (.slice none 0 0))],bA false]) ?_ (.cons wh (.cons (.refl _) .nil))
  refine ae.cr (hint:=fun t=>t==1000008) Tryz.func9 (by kernel_rfl) rfl [.cell 2 35,.tmp 3] (by kernel_rfl) (by simp[Tryz.ntmps9]) ?_
  rw[Tryz.ntmps9]
  simp -implicitDefEqProofs only[↓reduceIte,go_sem,ai,Nat.reduceAdd,Nat.reduceLT,Nat.reduceLeDiff,Nat.reduceEqDiff,Nat.reduceBEq,hZ.av,hZ.ds]
  refine ag.ok (hfw _) ?_
  simp -implicitDefEqProofs only[↓reduceIte,go_sem,aq,Nat.reduceAdd,Nat.reduceLT,Nat.reduceEqDiff]
  refine cI.ret ?_
  simp -implicitDefEqProofs only[↓reduceIte,go_sem,ai,Nat.reduceAdd,Nat.reduceLT,Nat.reduceLeDiff,Nat.reduceEqDiff,bE,cJ]
 have hmk:=hmk hf
 rw[hf]at hfw⊢
 simp only[true_and]
 have hm0:=fun H=>hmk (kD ks) [] (by omega) (by simp) H
 generalize hm:fA R ks (kD ks) [] 0=mk at*
 suffices hh:ae Tryz.prog 9 [.agg [.d (.list false (bu R)),.d (.list false (ints ks)),.d (.list false (ints c0)),.d (.list false (ints c1)),.d (.list false (ints k0)),.d (.list false (ints k1))]] H (.ok (if mk.2=0 then .a7 [Fl.av ⟨ks,P 2⟩,bA true]else .a7 [.agg [.d (.v (.slice none 0 0)),.d (.v (.slice none 0 0))],bA false])) H by
  by_cases h:mk.2=0
  ·rw[if_pos h]at hh⊢;exact hh
  ·rw[if_neg h]at hh⊢;exact hh.jj (.cons wh (.cons (.refl _) .nil))
 refine ae.cr (hint:=fun t=>t==1000008||t==1000012||t==1000017||t==10||t==1000020) Tryz.func9 (by kernel_rfl) rfl [.cell 2 35,.tmp 3] (by kernel_rfl) (by simp[Tryz.ntmps9]) ?_
 rw[Tryz.ntmps9]
 simp -implicitDefEqProofs only[↓reduceIte,go_sem,ai,Nat.reduceAdd,Nat.reduceLT,Nat.reduceLeDiff,Nat.reduceEqDiff,Nat.reduceBEq]
 refine ag.ok (hfw _) ?_
 simp -implicitDefEqProofs only[↓reduceIte,go_sem,Nat.reduceAdd,Nat.reduceLT,Nat.reduceBEq]
 obtain⟨tb,htb⟩:∃tb,tb=aA.box 26 6 0 1 [.d (.list false (bu R)),.d (.list false (ints ks)),.d (.list false (ints c0)),.d (.list false (ints c1)),.d (.list false (ints k0)),.d (.list false (ints k1))]:=⟨_,rfl⟩
 have hb:∀m,tb.below m=true:=by intro m;subst htb;simp -implicitDefEqProofs only[go_sem]
 rw[←htb]
 refine bk (fun k s H'=>H'=H++[tb,.box 35 2 0 1 [.d (.v (.slice none 0 0)),.d (.v (.slice none 0 0))],.arr 3 1 k (ints (upto k))]∧s 1= .ptr H.length 0 0 0∧s 2= .ptr (H.length+1) 0 0 0∧s 4= .sl (H.length+2) k 0 k∧s 5=iA k) (min ks.length 9) (by omega) (al.iT _ _ 4 3 1 (by decide) (by simp -implicitDefEqProofs only[↓reduceIte,go_sem,Nat.reduceLT,Nat.reduceEqDiff]) _) ?_ ?_ ?_
 ·refine⟨?_,?_⟩
  ·simp -implicitDefEqProofs only[go_sem,show ints (upto 0)=[]from rfl]
  ·simp -implicitDefEqProofs only[↓reduceIte,go_sem,Nat.reduceAdd,Nat.reduceLT,Nat.reduceEqDiff]
 ·rintro k s H' hk hw ⟨rfl,t1,t2,t4,t5⟩
  have e1:ints (upto (k+1))=ints (upto k)++[[.v (.int .i64 (k:Int))]]:=by rw[ku,←gd]
  have e2:(ints (upto k)).length=k:=by rw[aw,eL]
  rw[e1]
  generalize ints (upto k)=U at*
  simp -implicitDefEqProofs only[↓reduceIte,go_sem,ai,Nat.reduceAdd,Nat.reduceLT,Nat.reduceLeDiff,Nat.reduceEqDiff,Nat.reduceBEq,t1,t5,htb,aw,show k<ks.length by omega,show(k:Int)<9 by omega,t4,e2]
  rw[←htb]
  refine⟨by omega,by omega,db.same ⟨rfl,?_⟩⟩
  simp -implicitDefEqProofs only[↓reduceIte,go_sem,Nat.reduceLT,Nat.reduceEqDiff,t1,t2,hw]
 rintro s H' ⟨rfl,t1,t2,t4,t5⟩
 rw[←hae]
 have hai:(ints (kD ks)).take (kD ks).length=ints (kD ks):=List.take_of_length_le (by rw[aw];omega)
 rw[←hal]at t4 t5⊢
 generalize kD ks=A at*
 by_cases h9:A.length<ks.length
 case' pos=>simp -implicitDefEqProofs only[↓reduceIte,go_sem,ai,Nat.reduceAdd,Nat.reduceLT,Nat.reduceLeDiff,Nat.reduceEqDiff,Nat.reduceBEq,t1,t5,htb,aw,h9,show ¬(A.length:Int)<9 by omega]
 case' neg=>simp -implicitDefEqProofs only[↓reduceIte,go_sem,ai,Nat.reduceAdd,Nat.reduceLT,Nat.reduceLeDiff,Nat.reduceEqDiff,Nat.reduceBEq,reduceCtorEq,t1,t5,htb,aw,h9]
 all_goals
  refine⟨_,_,al.cut [_,_] [_] 2 rfl _ (by simp -implicitDefEqProofs only[go_sem]),?_⟩
  simp -implicitDefEqProofs only[↓reduceIte,go_sem,ai,aq,Nat.reduceAdd,Nat.reduceLT,Nat.reduceLeDiff,Nat.reduceEqDiff,Nat.reduceBEq,t1,t4,hai]
  refine ag.sub (.cons (.refl _) (.cons (.refl _) (.cons (.refl _) (.cons .nil (.cons (.refl _) .nil))))) (hm0 _) ?_
  obtain⟨⟨p1,p2,p3,p4⟩,e⟩:=mk
  by_cases he:e=0
  case neg=>
   rw[if_neg he]
   simp -implicitDefEqProofs only[↓reduceIte,go_sem,aq,Nat.reduceAdd,Nat.reduceLT,Nat.reduceEqDiff,Nat.reduceBEq,Pj.av,Pj.ds,he,t2]
   refine cI.ret ?_
   simp -implicitDefEqProofs only[↓reduceIte,go_sem,ai,Nat.reduceAdd,Nat.reduceLT,Nat.reduceLeDiff,Nat.reduceEqDiff,bE,cJ,t2]
  rw[if_pos he]
  subst he
  simp -implicitDefEqProofs only[↓reduceIte,go_sem,aq,Nat.reduceAdd,Nat.reduceLT,Nat.reduceEqDiff,Nat.reduceBEq,Pj.av,Pj.ds]
  refine⟨_,_,al.dg _ _ (H.length+2) 35 2 0 1 [.d (.list false (ints ks)),.d (.v (.slice none 0 0))] 1 _ 49 4 (by decide) (by simp -implicitDefEqProofs only[go_sem]) rfl rfl,?_⟩
  simp -implicitDefEqProofs only[↓reduceIte,go_sem,ai,aq,Nat.reduceAdd,Nat.reduceLT,Nat.reduceLeDiff,Nat.reduceEqDiff,Nat.reduceBEq]
  refine bk (fun k s H'=>H'=H++[.box 26 6 0 1 [.d (.list false (bu R)),.d (.list false (ints ks)),.d (.list false (ints c0)),.d (.list false (ints c1)),.d (.list false (ints k0)),.d (.list false (ints k1))],.box 35 2 0 1 [.d (.v (.slice none 0 0)),.d (.v (.slice none 0 0))],.box 35 2 0 1 [.d (.list false (ints ks)),.sl (H.length+4) (P k).length 0 (P k).length],.box 49 4 0 1 [.d (.list false (ints p1)),.d (.list false (ints p2)),iA p3,.d (.list false (dr p4))],.arr 49 4 (P k).length ((P k).map Pj.ds)]∧s 1= .ptr H.length 0 0 0∧s 2= .ptr (H.length+1) 0 0 0∧s 6= .ptr (H.length+2) 0 0 0∧s 9=iA k) 2 (by omega) (al.refl _ _) ?_ ?_ ?_
  ·refine⟨?_,?_⟩
   ·rw[hP0]
    simp -implicitDefEqProofs only[go_sem,Pj.ds]
   ·simp -implicitDefEqProofs only[↓reduceIte,go_sem,Nat.reduceLT,Nat.reduceEqDiff,t1,t2]
  ·rintro k s H' hk hw ⟨rfl,t1,t2,t6,t9⟩
   have hPs:∃c y,P (k+1)=P k++nV R ks c y∧((k=0∧c0=c∧k0=y)∨(k=1∧c1=c∧k1=y)):=by
    rcases(show k=0∨k=1 by omega)with rfl|rfl
    ·exact⟨c0,k0,hP1,.inl ⟨rfl,rfl,rfl⟩⟩
    ·exact⟨c1,k1,hP2,.inr ⟨rfl,rfl,rfl⟩⟩
   obtain⟨c,y,hPs,hk2⟩:=hPs
   have hPk:=hPl k
   have hml:((P k).map Pj.ds).length=(P k).length:=by simp
   clear hP0 hP1 hP2 hPl
   generalize P k=Pk at*
   generalize P (k+1)=Pn at*
   unfold nV at hPs
   have w1:IntKind.i64.wrap 1=1:=by decide
   have w2:IntKind.i64.wrap 2=2:=by decide
   by_cases hc:20<(c.length:Int)
   ·rw[if_pos (.inl (by omega)),List.append_nil]at hPs
    rcases hk2 with⟨rfl,rfl,rfl⟩|⟨rfl,rfl,rfl⟩
    all_goals
     simp -implicitDefEqProofs only[↓reduceIte,go_sem,ai,Nat.reduceAdd,Nat.reduceLT,Nat.reduceLeDiff,Nat.reduceEqDiff,Nat.reduceBEq,Int.reduceLE,Int.reduceLT,Int.reduceAdd,Int.reduceToNat,t1,t9,aw,hc]
     refine db.same ⟨by rw[hPs],?_⟩
     simp -implicitDefEqProofs only[↓reduceIte,go_sem,Nat.reduceLT,Nat.reduceEqDiff,t1,t2,t6,w1,w2]
   by_cases hy:20<(y.length:Int)
   ·rw[if_pos (.inr (by omega)),List.append_nil]at hPs
    rcases hk2 with⟨rfl,rfl,rfl⟩|⟨rfl,rfl,rfl⟩
    all_goals
     simp -implicitDefEqProofs only[↓reduceIte,go_sem,ai,Nat.reduceAdd,Nat.reduceLT,Nat.reduceLeDiff,Nat.reduceEqDiff,Nat.reduceBEq,Int.reduceLE,Int.reduceLT,Int.reduceAdd,Int.reduceToNat,reduceCtorEq,t1,t9,aw,hc,hy]
     refine db.same ⟨by rw[hPs],?_⟩
     simp -implicitDefEqProofs only[↓reduceIte,go_sem,Nat.reduceLT,Nat.reduceEqDiff,t1,t2,t6,w1,w2]
   rw[if_neg (by omega)]at hPs
   have hmq:=fun H=>hmk c y (by omega) (by omega) H
   generalize fA R ks c y 0=mq at*
   obtain⟨⟨q1,q2,q3,q4⟩,g⟩:=mq
   have hti:TI Tryz.prog 49=some ((.agg #[.slice none 0 0,.slice none 0 0,.int .i64 0,.slice none 0 0]:Value),4,80):=by kernel_rfl
   rcases hk2 with⟨rfl,rfl,rfl⟩|⟨rfl,rfl,rfl⟩
   all_goals
    simp -implicitDefEqProofs only[↓reduceIte,go_sem,ai,Nat.reduceAdd,Nat.reduceLT,Nat.reduceLeDiff,Nat.reduceEqDiff,Nat.reduceBEq,Int.reduceLE,Int.reduceLT,Int.reduceToNat,reduceCtorEq,t1,t9,aw,hc,hy]
    refine⟨_,_,al.more _ _ 49 4 (by decide),?_⟩
    simp -implicitDefEqProofs only[go_sem]
    refine pg [none,none,none,none,some false,none,none,none,some false,none,none,none,some true,some false,some false,some false,some true,some true,some false] 16 (H.length+5) (.box 49 4 1 1 eR) (H++[.box 26 6 0 1 [.d (.list false (bu R)),.d (.list false (ints ks)),.d (.list false (ints c0)),.d (.list false (ints c1)),.d (.list false (ints k0)),.d (.list false (ints k1))],.box 35 2 0 1 [.d (.v (.slice none 0 0)),.d (.v (.slice none 0 0))],.box 35 2 0 1 [.d (.list false (ints ks)),.sl (H.length+4) Pk.length 0 Pk.length],.box 49 4 0 1 [.d (.list false (ints p1)),.d (.list false (ints p2)),iA p3,.d (.list false (dr p4))],.arr 49 4 Pk.length (Pk.map Pj.ds)]) K.mixed (by kernel_rfl) (by kernel_rfl) (by kernel_rfl) (xn _ [_,_,_,_,_] [_]) (by intro o ho;simp at ho) ?_
    simp -implicitDefEqProofs only[↓reduceIte,go_sem,ai,Nat.reduceAdd,Nat.reduceLT,Nat.reduceLeDiff,Nat.reduceEqDiff,Int.reduceLE,Int.reduceLT,Int.reduceToNat,reduceCtorEq,t1,t9]
    refine ag.ok (hmq _) ?_
    simp -implicitDefEqProofs only[↓reduceIte,go_sem,Nat.reduceAdd,Nat.reduceLT,Nat.reduceEqDiff]
    refine ag.ok (hmq _) ?_
    simp -implicitDefEqProofs only[↓reduceIte,go_sem,aq,Nat.reduceAdd,Nat.reduceLT,Nat.reduceEqDiff,Pj.av,Pj.ds]
    refine⟨xn _ [_,_,_,_,_] [_],⟨_,_,_,_,49,rfl,rfl,hti,⟨by decide,by kernel_rfl,by kernel_rfl⟩,rfl,rfl,by simp -implicitDefEqProofs only[go_sem]⟩,?_⟩
    simp -implicitDefEqProofs only[↓reduceIte,go_sem,Nat.reduceAdd,Nat.reduceLT,Nat.reduceEqDiff,Nat.reduceBEq,eR]
    refine⟨xn _ [_,_,_,_,_] [_],?_⟩
    by_cases hg:g=0
    ·rw[if_pos hg]at hPs
     subst hg
     simp -implicitDefEqProofs only[↓reduceIte,go_sem,ai,aq,Nat.reduceAdd,Nat.reduceLT,Nat.reduceLeDiff,Nat.reduceEqDiff,Nat.reduceBEq,Int.reduceAdd,t6,t9,hml]
     refine⟨by omega,by omega,?_⟩
     refine db.cut [.box 26 6 0 1 [.d (.list false (bu R)),.d (.list false (ints ks)),.d (.list false (ints c0)),.d (.list false (ints c1)),.d (.list false (ints k0)),.d (.list false (ints k1))],.box 35 2 0 1 [.d (.v (.slice none 0 0)),.d (.v (.slice none 0 0))],.box 35 2 0 1 [.d (.list false (ints ks)),.sl (H.length+4) (Pk.length+1) 0 (Pk.length+1)],.box 49 4 0 1 [.d (.list false (ints p1)),.d (.list false (ints p2)),iA p3,.d (.list false (dr p4))],.arr 49 4 (Pk.length+1) (Pk.map Pj.ds++[[.list false (ints q1),.list false (ints q2),iD q3,.list false (dr q4)]])] _ 5 rfl rfl ?_ ?_
     ·simp -implicitDefEqProofs only[go_sem,Nat.reduceLT]
     refine⟨by rw[hPs];simp[Pj.ds],?_⟩
     simp -implicitDefEqProofs only[↓reduceIte,go_sem,Nat.reduceLT,Nat.reduceEqDiff,t1,t2,t6,w1,w2]
    ·rw[if_neg hg,List.append_nil]at hPs
     simp -implicitDefEqProofs only[↓reduceIte,go_sem,Nat.reduceAdd,Nat.reduceLT,Nat.reduceEqDiff,Nat.reduceBEq,Int.reduceAdd,hg,t9]
     refine db.cut [.box 26 6 0 1 [.d (.list false (bu R)),.d (.list false (ints ks)),.d (.list false (ints c0)),.d (.list false (ints c1)),.d (.list false (ints k0)),.d (.list false (ints k1))],.box 35 2 0 1 [.d (.v (.slice none 0 0)),.d (.v (.slice none 0 0))],.box 35 2 0 1 [.d (.list false (ints ks)),.sl (H.length+4) Pk.length 0 Pk.length],.box 49 4 0 1 [.d (.list false (ints p1)),.d (.list false (ints p2)),iA p3,.d (.list false (dr p4))],.arr 49 4 Pk.length (Pk.map Pj.ds)] _ 5 rfl rfl ?_ ?_
     ·simp -implicitDefEqProofs only[go_sem,Nat.reduceLT]
     refine⟨by rw[hPs],?_⟩
     simp -implicitDefEqProofs only[↓reduceIte,go_sem,Nat.reduceLT,Nat.reduceEqDiff,t1,t2,t6,w1,w2]
  ·rintro s H' ⟨rfl,t1,t2,t6,t9⟩
   have hPl2:=hPl 2
   have hmt:((P 2).map Pj.ds).length=(P 2).length:=by simp
   generalize P 2=P2 at*
   simp -implicitDefEqProofs only[↓reduceIte,go_sem,Nat.reduceAdd,Nat.reduceLT,Nat.reduceBEq,Int.reduceLT,t9]
   refine⟨_,_,al.lk _ _ (H.length+2) 2 0 1 1 (H.length+4) P2.length 0 P2.length 4 35 49 [.d (.list false (ints ks)),.sl (H.length+4) P2.length 0 P2.length] (P2.map Pj.ds) (by simp -implicitDefEqProofs only[go_sem]) rfl (by simp -implicitDefEqProofs only[go_sem]),?_⟩
   simp -implicitDefEqProofs only[↓reduceIte,go_sem,ai,aq,Nat.reduceAdd,Nat.reduceLT,Nat.reduceEqDiff,t6,t2,List.take_of_length_le (Nat.le_of_eq hmt)]
   refine cI.ret ?_
   simp -implicitDefEqProofs only[↓reduceIte,go_sem,ai,Nat.reduceAdd,Nat.reduceLT,Nat.reduceLeDiff,Nat.reduceEqDiff,bE,cJ,t2,Fl.av,Fl.ds]
theorem oD{t:hZ}(h:(pX t).2=true):(pX t).1=⟨t.kinds,cZ t 2⟩∧cq 300 20000 t.rows=true∧(fA t.rows t.kinds (kD t.kinds) [] 0).2=0:=by
 unfold pX at h⊢
 split
 ·rename_i h1;exact⟨rfl,h1⟩
 ·rename_i h1;rw[if_neg h1]at h;cases h
theorem AL{R:List (List aj)}{ks c y:List Int}{p:Pj}(h:p∈nV R ks c y):p.Ok:=by
 unfold nV at h
 split at h
 ·cases h
 ·split at h
  ·rw[List.mem_singleton.1 h]
   rename_i h1 h2
   exact(nL h2).ok (by omega)
  ·cases h
theorem BR{t:hZ}(h:(pX t).2=true):(pX t).1.Ok:=by
 obtain⟨h1,h2,h3⟩:=oD h
 rw[h1]
 refine⟨by have:=iC t 2;simp only;omega,fun p hp=>?_⟩
 simp only[cZ]at hp
 rcases List.mem_cons.1 hp with rfl|hp
 ·exact(nL h3).ok (by rw[kD,eL];omega)
 ·simp only[Nat.lt_add_one,if_true,show 0<2 by omega,List.mem_append]at hp
  rcases hp with hp|hp<;>exact AL hp
theorem DR{x:AV}(h:j4 Tryz.prog 31 x):∃q:Qu,x=q.av:=by
 obtain⟨ds,rfl,hf⟩:=wA h K.B5 (shs:=[.int .i64,.slice 48 pO,.slice 48 [.int .i64,.int .i64,.int .i64,.slice 48 pO],.slice 8 [.int .i64],.bool,.slice 16 [.int .i64,.int .i64],.slice 8 [.int .i64],.int .i64]) (by kernel_rfl)
 obtain⟨x0,_,rfl,h0,h⟩:=aO.cons_inv hf
 obtain⟨x1,_,rfl,h1,h⟩:=aO.cons_inv h
 obtain⟨x2,_,rfl,h2,h⟩:=aO.cons_inv h
 obtain⟨x3,_,rfl,h3,h⟩:=aO.cons_inv h
 obtain⟨x4,_,rfl,h4,h⟩:=aO.cons_inv h
 obtain⟨x5,_,rfl,h5,h⟩:=aO.cons_inv h
 obtain⟨x6,_,rfl,h6,h⟩:=aO.cons_inv h
 obtain⟨x7,_,rfl,h7,h⟩:=aO.cons_inv h
 cases aO.gI h
 obtain⟨pred,rfl,_,_⟩:=xo h1
 obtain⟨bR,rfl,_,_⟩:=ga h3
 obtain⟨l2,rfl,_,g2⟩:=Fits.eF h2
 obtain⟨l5,rfl,_,g5⟩:=Fits.eF h5
 obtain⟨bU,rfl,_⟩:=gK (enc:=wE) (p:=fun _=>True) fun e he=>by
  obtain⟨a,_,rfl,ha,h⟩:=aO.cons_inv (g2 e he)
  obtain⟨b,_,rfl,_,h⟩:=aO.cons_inv h
  obtain⟨c,_,rfl,_,h⟩:=aO.cons_inv h
  obtain⟨d,_,rfl,_,h⟩:=aO.cons_inv h
  cases aO.gI h
  obtain⟨n,rfl,_⟩:=Fits.fw ha
  exact⟨(n,b,c,d),rfl,trivial⟩
 obtain⟨c7,rfl,_⟩:=gK (enc:=xS) (p:=fun _=>True) fun e he=>by
  obtain⟨a,_,rfl,ha,h⟩:=aO.cons_inv (g5 e he)
  obtain⟨b,_,rfl,hb,h⟩:=aO.cons_inv h
  cases aO.gI h
  obtain⟨n,rfl,_⟩:=Fits.fw ha
  obtain⟨m,rfl,_⟩:=Fits.fw hb
  exact⟨(n,m),rfl,trivial⟩
 exact⟨⟨x0,pred,bU,bR,x4,c7,x6,x7⟩,rfl⟩
theorem BS{x:AV}(h:j4 Tryz.prog 26 x):∃t:hZ,x=t.av∧t.Ok:=by
 obtain⟨ds,rfl,hf⟩:=wA h K.B4 (shs:=[.slice 24 [.slice 32 sO],.slice 8 [.int .i64],.slice 8 [.int .i64],.slice 8 [.int .i64],.slice 8 [.int .i64],.slice 8 [.int .i64]]) (by kernel_rfl)
 obtain⟨d0,ds,rfl,h0,hf⟩:=aO.cons_inv hf
 obtain⟨d1,ds,rfl,h1,hf⟩:=aO.cons_inv hf
 obtain⟨d2,ds,rfl,h2,hf⟩:=aO.cons_inv hf
 obtain⟨d3,ds,rfl,h3,hf⟩:=aO.cons_inv hf
 obtain⟨d4,ds,rfl,h4,hf⟩:=aO.cons_inv hf
 obtain⟨d5,ds,rfl,h5,hf⟩:=aO.cons_inv hf
 cases aO.gI hf
 obtain⟨R,rfl,hR⟩:=mc h0
 obtain⟨ks,rfl,hk,_⟩:=ga h1
 obtain⟨c0,rfl,_,_⟩:=ga h2
 obtain⟨c1,rfl,_,_⟩:=ga h3
 obtain⟨k0,rfl,_,_⟩:=ga h4
 obtain⟨k1,rfl,_,_⟩:=ga h5
 exact⟨⟨R,ks,c0,c1,k0,k1⟩,rfl,hR,by simp only;omega⟩
end Go.Proofs.YtfklokhopcmloaaGreat
