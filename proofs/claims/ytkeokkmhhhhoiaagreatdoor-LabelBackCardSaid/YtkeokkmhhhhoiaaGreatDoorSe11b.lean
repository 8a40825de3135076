import Derived.Test.YtkeokkmhhhhoiaaGreatDoorSe11
import Derived.Laws.CopyRow
import Derived.Laws.IdiomCopy
namespace Go.SE
open Go
set_option linter.unusedVariables false
set_option linter.unusedSimpArgs false
section
variable {P:PL} {s:Store} {o:Oper} {ev:Operand->AV}
theorem zS {k:Nat} {r r2:Row} {K:Row->Prop} (h:vQ k r r2 K) (hk:k<=r.len) (hk2:k<=r2.len): ∃row,K row/\row.len=r.len/\(r.ok->r2.ok->row.ok)/\(∀j,j<k->row.get j=r2.get j)/\ ∀j,k<=j->row.get j=r.get j:=by
 have hget: ∀ {α:Type} (l l2:List α) (d:α),k<=l.length->k<=l2.length->(l2.take k++l.drop k).length=l.length/\(∀j,j<k->(l2.take k++l.drop k).getD j d=l2.getD j d)/\ ∀j,k<=j->(l2.take k++l.drop k).getD j d=l.getD j d:=fun l l2 d hl hl2=>by
  have ht:(l2.take k).length=k:=by rw[List.length_take];omega
  refine⟨by simp;omega,fun j hj=>?_,fun j hj=>?_⟩
  ·simp only[List.getD]
   rw[List.getElem?_append_left (by omega),List.getElem?_take,if_pos hj]
  ·simp only[List.getD]
   rw[List.getElem?_append_right (by omega),ht,List.getElem?_drop,show k+(j-k)=j by omega]
 unfold vQ at h
 split at h
 ·replace h:=Bn h
  obtain⟨hkk,h⟩:=h
  obtain rfl:=of_decide_eq_true hkk
  have g:=hget _ _ 0 hk hk2
  exact⟨_,h,g.1,fun _ _=>trivial,fun j hj=>by simp only[Row.get];rw[g.2.1 j hj],fun j hj=>by simp only[Row.get];rw[g.2.2 j hj]⟩
 ·have g:=hget _ _ ByteArray.empty hk hk2
  exact⟨_,h,g.1,fun _ _=>trivial,fun j hj=>by simp only[Row.get];rw[g.2.1 j hj],fun j hj=>by simp only[Row.get];rw[g.2.2 j hj]⟩
 ·have g:=hget _ _ false hk hk2
  exact⟨_,h,g.1,fun _ _=>trivial,fun j hj=>by simp only[Row.get];rw[g.2.1 j hj],fun j hj=>by simp only[Row.get];rw[g.2.2 j hj]⟩
 ·rename_i n1 g1 n2 g2
  have hb: ∀j,Nat.blt j k=decide (j<k):=fun j=>by rw[Bool.eq_iff_iff];simp[Nat.blt_eq]
  simp only[Row.len]at hk hk2
  refine⟨_,h,rfl,fun h1 h2 j hj=>?_,fun j hj=>?_,fun j hj=>?_⟩
  ·show AV.Lm (bif Nat.blt j k then g2 j else g1 j)=true
   rw[hb]
   by_cases e:j<k
   ·simp only[e,decide_true,cond_true];exact h2 j (by omega)
   ·simp only[e,decide_false,cond_false];exact h1 j hj
  ·show(bif Nat.blt j k then g2 j else g1 j)=g2 j
   rw[hb];simp[hj]
  ·show(bif Nat.blt j k then g2 j else g1 j)=g1 j
   rw[hb,decide_eq_false (by omega)];rfl
 ·exact h.elim
theorem vR {w:World} {t t' ty e:TypeId} {b dLen dCap n c:Nat} {a:Option Addr} {cur:Array Value} {ety:TypeId} {news:List Value} (ht:P.underlying t=some (.slice e)) (hp:0<P.cellsOf e)
  (hh:w.heap[b]? =some (.cells cur ety (0,0))) (ha:a=none->n=0) (hl:news.length=n*P.cellsOf e) (hc: ∀ad,a=some ad-> ∀(j:Nat) (u:Value),news[j]? =some u->w.cell? (ad.add j)=some u)
  (h1: ∀u∈news,u.oneCell'=true) (hfit:dLen*P.cellsOf e<=cur.size):
  (Builtin.copy_ #[t,t'] ty #[.slice (some ⟨b,0,none⟩) dLen dCap, .slice a n c]).run P w=.ok (.int .i64 ((min n dLen:Nat):Int)) (w.setRow b ((news.take (min n dLen*P.cellsOf e))++cur.toList.drop (min n dLen*P.cellsOf e)).toArray):=by
 have hmin:Nat.min n dLen=min n dLen:=rfl
 have hle:min n dLen*P.cellsOf e<=news.length:=by rw[hl];exact Nat.mul_le_mul_right _ (Nat.min_le_left _ _)
 have hlen:(news.take (min n dLen*P.cellsOf e)).length=min n dLen*P.cellsOf e:=by rw[List.length_take];omega
 have Aln:min n dLen*P.cellsOf e<=cur.size:=Nat.le_trans (Nat.mul_le_mul_right _ (Nat.min_le_right _ _)) hfit
 have hfc:(Builtin.firstCells (P.cellsOf e) (min n dLen) (.slice a n c)).run P w=.ok (news.take (min n dLen*P.cellsOf e)).toArray w:=by
  cases a with
  |none=>
   have:=ha rfl
   subst this
   have hn:news= []:=List.eq_nil_of_length_eq_zero (by simpa using hl)
   subst hn
   simp[Builtin.firstCells]
  |some ad=>
   refine run_firstCells_some (P:=P) (w:=w) _ _ ad n c _ hlen fun j u hu=>hc ad rfl j u ?_
   rw[List.getElem?_take]at hu
   split at hu
   ·exact hu
   ·cases hu
 have hst:=run_storeCells_at (P:=P) b 0 ety (news.take (min n dLen*P.cellsOf e)) 0 cur w hh (by rw[hlen];omega) fun u hu=>h1 u (List.mem_of_mem_take hu)
 simp only[Nat.zero_add,List.take_zero,List.nil_append,hlen]at hst
 simp only[Builtin.copy_,Builtin.lenOf]
 simp[run_underlying ht,hmin,Cq hp,hfc,hst,goInt]
theorem three {α:Type} (l X:List α) (o n j:Nat) (h:o+n<=l.length) (hX:X.length=n):(l.take o++(X++l.drop (o+n)))[j]? =if j<o then l[j]? else if j<o+n then X[j-o]? else l[j]? :=by
 have ht:(l.take o).length=o:=by rw[List.length_take];omega
 by_cases h1:j<o
 ·rw[if_pos h1,List.getElem?_append_left (by omega),List.getElem?_take,if_pos h1]
 ·rw[if_neg h1,List.getElem?_append_right (by omega),ht]
  by_cases h2:j<o+n
  ·rw[if_pos h2,List.getElem?_append_left (by omega)]
  ·rw[if_neg h2,List.getElem?_append_right (by omega),hX,List.getElem?_drop,show o+n+(j-o-n)=j by omega]
theorem vW {c:Call} {x0:AV} {K:AV->Store->Prop} (ho:o.op=.call c) (hc:c.callee=.builtin .clear) (hx:c.args.toList.map ev= [x0]) (h:AaQ P s c.argTypes.toList x0 K): ∃r s',K r s'/\EY P o s ev r s':=by
 obtain⟨a,hab,rfl⟩:=Akt hx
 have hma:a∈o.op.operands.toList:=by simp[ho,Op.operands,Call.operands,hc,hab]
 unfold AaQ at h
 split at h
 ·rename_i t hts
  have hts:=iK hts
  split at h
  ·rename_i e ht
   split at h
   ·rename_i id off n hev
    split at h
    ·rename_i ob Sd
     split at h
     ·rename_i k l hrow
      replace h:=Bn h
      obtain⟨hq,hle,hK⟩:=h
      simp only[Bool.and_eq_true,beq_iff_eq]at hq
      obtain⟨⟨⟨hro,Ld⟩,hp⟩,hzq⟩:=hq
      have hro:ob.ro=false:=by simpa using hro
      split at hzq
      ·rename_i k' z hz
       simp only[Bool.and_eq_true,decide_eq_true_eq]at hzq
       obtain⟨rfl,rfl⟩:=hzq
       have he: ∀ρ,execOp ρ o=(do pure (.value (<- Builtin.clear_ #[t] o.type #[ρ a]))):=fun ρ=>by rw[Jh ho hc,hts,hab];simp[builtin]
       have hlen:(l.take off++(List.replicate n (0:Int)++l.drop (off+n))).length=l.length:=by simp;omega
       refine⟨_,_,hK,EY.made he fun V w cx ρ S R=>?_⟩
       have hra:=R a hma
       rw[hev]at hra
       generalize ρ a=va at hra
       by_cases hn0:n=0
       ·subst hn0
        have same:s.set id (some { ob with row:=.ints k (l.take off++(List.replicate 0 0++l.drop (off+0))) })=s:=by
               rw[List.replicate_zero,List.nil_append,Nat.add_zero,List.take_append_drop,<- hrow]
               obtain⟨hlt,hg⟩:=List.getElem?_eq_some_iff.1 Sd
               rw[<- hg]
               exact List.set_getElem_self hlt
        rw[same]
        have run: ∀a c,(Builtin.clear_ #[t] o.type #[.slice a 0 c]).run P w=.ok (.tuple #[]) w:=fun a c=>by
               cases a<;>simp[Builtin.clear_,run_underlying ht]
        obtain⟨ad,c',rfl⟩:=hra.len (n:=0) (.inr (.inr ⟨id,off,rfl⟩))
        exact⟨_,w,run _ _,cx,Ext.refl,S, .unk _⟩
       ·cases hra with
        |XK=>exact absurd rfl hn0
        |LP _ _ _ cap o' en hen hnn hn hcap hoff hmax=>
         obtain⟨cur,RO⟩:=S.obj id en ob hen Sd hnn
         have hes:en.BU=1:=by rw[RO.BU,Ld]
         have ho':o'=off:=by rw[hoff (by omega),hes,Nat.mul_one]
         subst ho'
         have hel:en.len=l.length:=by rw[RO.len,hrow];rfl
         have hfit:o'+n<=cur.size:=by
               have h1:=RO.fits
               rw[hes,Nat.mul_one,<- RO.tot]at h1
               omega
         obtain⟨i,zv,hi,hzv,wN,hst⟩:=I8 hz w cx (Av V cx s)
         have hzi:=wN.Dx
         subst hzi
         have hzz: ∀w',(zeroValue e).run P w'=.ok (.int k 0) w':=fun w'=>by simp[zeroValue,typeInfo,hi,hzv]
         have hzc:(Builtin.zeroCells (Value.int k 0).cells n).toList=List.replicate n (Value.int k 0):=by
               show(Builtin.zeroCells #[Value.int k 0] n).toList=_
               simp[Builtin.zeroCells]
               apply List.ext_getElem
               ·simp
               ·intro i h1 h2
                simp[Nat.mod_one]
         have AlL:=run_storeCells_at P en.b o' ob.ety (List.replicate n (Value.int k 0)) 0 cur w (RO.heap hro) (by simpa using hfit) (by intro v hv;rw[List.eq_of_mem_replicate hv];rfl)
         have hrun:(Builtin.clear_ #[t] o.type #[.slice (some ⟨en.b,o',none⟩) n cap]).run P w=.ok (.tuple #[]) (w.setRow en.b (cur.toList.take o'++List.replicate n (Value.int k 0)++cur.toList.drop (o'+n)).toArray):=by
               obtain⟨m,rfl⟩: ∃m,n=m+1:=⟨n-1,by omega⟩
               simp only[Nat.add_zero,List.length_replicate]at AlL
               simp[Builtin.clear_,run_underlying ht,hzz,hzc,AlL]
         have htk:(cur.toList.take o').length=o':=by rw[List.length_take,Array.length_toList];omega
         have htl:(l.take o').length=o':=by rw[List.length_take];omega
         obtain⟨S',E⟩:=S.update hen Sd hnn hro RO (.ints k (l.take o'++(List.replicate n 0++l.drop (o'+n)))) (cur.toList.take o'++List.replicate n (Value.int k 0)++cur.toList.drop (o'+n)).toArray
               (by rw[hrow];exact hlen) trivial (by simp;omega) (fun j hj=>Ld.symm)
               (fun j c x hj hx=>by
                 rw[hes,Nat.mul_one,List.getElem?_toArray,List.append_assoc]
                 have hx':(AV.int k ((l.take o'++(List.replicate n 0++l.drop (o'+n))).getD j 0)).cells[c]? =some x:=hx
                 match c,hx' with
                 |c+1,hx'=>cases hx'
                 |0,hx'=>
                  cases hx'
                  rw[List.getD_eq_getElem?_getD,Nat.add_zero]
                  have old: ∃v,cur[j]? =some v/\v.oneCell'=true/\Rel w cx (Av V cx s) (.int k (l.getD j 0)) v:=by
                     have:=RO.cells j 0 (.int k (l.getD j 0)) hj (by rw[hrow];rfl)
                     rwa[hes,Nat.mul_one,Nat.add_zero]at this
                  rw[three cur.toList _ o' n j (by simpa using hfit) (by simp),three l _ o' n j hle (by simp)]
                  by_cases h1:j<o'
                  ·rw[if_pos h1,if_pos h1,Array.getElem?_toList,<- List.getD_eq_getElem?_getD]
                   exact old
                  ·rw[if_neg h1,if_neg h1]
                   by_cases h2:j<o'+n
                   ·rw[if_pos h2,if_pos h2,List.getElem?_replicate,if_pos (by omega),List.getElem?_replicate,if_pos (by omega)]
                    exact⟨_,rfl,rfl, .int _ _⟩
                   ·rw[if_neg h2,if_neg h2,Array.getElem?_toList,<- List.getD_eq_getElem?_getD]
                    exact old)
         exact⟨_,_,hrun,cx,E _,S', .unk _⟩
      ·cases hzq
     ·exact h.elim
    ·exact h.elim
   ·exact h.elim
  ·exact h.elim
 ·exact h.elim
theorem Aaf {c:Call} {x0 x1:AV} {K:AV->Store->Prop} (ho:o.op=.call c) (hc:c.callee=.builtin .copy) (hx:c.args.toList.map ev= [x0,x1]) (h:Ae8 P s c.argTypes.toList x0 x1 K): ∃r s',K r s'/\EY P o s ev r s':=by
 obtain⟨a,b,hab,rfl,rfl⟩:=AdO hx
 have hma:a∈o.op.operands.toList:=by simp[ho,Op.operands,Call.operands,hc,hab]
 have hmb:b∈o.op.operands.toList:=by simp[ho,Op.operands,Call.operands,hc,hab]
 unfold Ae8 at h
 split at h
 ·rename_i t t' hts
  have hts:=Ahl hts
  split at h
  ·rename_i e ht
   split at h
   ·rename_i id n0 hev
    split at h
    ·rename_i ob Sd
     replace h:=Bn h
     obtain⟨hq,hn0,n,r2,hrow,hok2,hsz,h⟩:=h
     simp only[Bool.and_eq_true,beq_iff_eq]at hq
     obtain⟨⟨⟨hro,Ld⟩,hp⟩,AjS⟩:=hq
     have AjS:ob.mb=false:=by simpa using AjS
     have hro:ob.ro=false:=by simpa using hro
     have hp:0<P.cellsOf e:=by simpa using hp
     have he: ∀ρ,execOp ρ o=(do pure (.value (<- Builtin.copy_ #[t,t'] o.type #[ρ a,ρ b]))):=fun ρ=>by rw[Jh ho hc,hts,hab];simp[builtin]
     have core:n0<=ob.row.len-> ∃r s',K r s'/\EY P o s ev r s':=fun hn0=>by
         obtain⟨row,hK,hlen,hok,hlow,hhigh⟩:=zS h (Nat.le_trans (Nat.min_le_right _ _) hn0) (by rw[hrow.1];exact Nat.min_le_left _ _)
         refine⟨_,_,hK,EY.made he fun V w cx ρ S R=>?_⟩
         have hra:=R a hma
         rw[hev]at hra
         generalize ρ a=va at hra
         obtain⟨sa,sc,news,q1,q2,q3,q4,q5,q6⟩:=source S hrow (R b hmb) hsz hp
         rw[q1]
         cases hra with
         |ms _ _ cap en hen hnn hn hcap htot hmax=>
          obtain⟨cur,RO⟩:=S.obj id en ob hen Sd hnn
          have hes:en.BU=P.cellsOf e:=by rw[RO.BU,Ld]
          have hfit:n0*P.cellsOf e<=cur.size:=by
              rw[RO.tot]
              have h1:=RO.fits
              rw[hes]at h1
              exact Nat.le_trans (Nat.mul_le_mul_right _ hn) h1
          have hrun:=vR (P:=P) (w:=w) (t:=t) (t':=t') (ty:=o.type) (dCap:=cap) (c:=sc) ht hp (RO.heap hro) q2 q3 q4 q5 hfit
          have hle:min n n0*P.cellsOf e<=news.length:=by rw[q3];exact Nat.mul_le_mul_right _ (Nat.min_le_left _ _)
          have Aln:min n n0*P.cellsOf e<=cur.size:=Nat.le_trans (Nat.mul_le_mul_right _ (Nat.min_le_right _ _)) hfit
          obtain⟨S',E⟩:=S.update hen Sd hnn hro RO row ((news.take (min n n0*P.cellsOf e))++cur.toList.drop (min n n0*P.cellsOf e)).toArray hlen (hok RO.ok hok2)
              (by simp;omega)
              (fun j hj=>by
                by_cases hjk:j<min n n0
                ·rw[hlow j hjk,hsz j (by omega),Ld]
                ·rw[hhigh j (by omega)];exact RO.size j hj)
              (fun j c x hj hx=>by
                rw[List.getElem?_toArray]
                have htk:(news.take (min n n0*P.cellsOf e)).length=min n n0*P.cellsOf e:=by rw[List.length_take];omega
                by_cases hjk:j<min n n0
                ·rw[hlow j hjk]at hx
                 obtain⟨u,hu,h1,h2⟩:=q6 j c x (by omega) hx
                 have hcs:c<P.cellsOf e:=by have:=AV.NS hx;rw[hsz j (by omega)]at this;exact this
                 have hlt:j*P.cellsOf e+c<min n n0*P.cellsOf e:=by
                    have:=Nat.mul_le_mul_right (P.cellsOf e) (show j+1<=min n n0 from hjk)
                    rw[Nat.add_mul,Nat.one_mul]at this
                    omega
                 refine⟨u,?_,h1,h2⟩
                 rw[hes,List.getElem?_append_left (by omega),List.getElem?_take,if_pos hlt]
                 exact hu
                ·rw[hhigh j (by omega)]at hx
                 obtain⟨u,hu,h1,h2⟩:=RO.cells j c x hj hx
                 have hge:min n n0*P.cellsOf e<=j*P.cellsOf e:=Nat.mul_le_mul_right _ (by omega)
                 refine⟨u,?_,h1,h2⟩
                 rw[hes]at hu ⊢
                 rw[List.getElem?_append_right (by omega),htk,List.getElem?_drop,show min n n0*P.cellsOf e+(j*P.cellsOf e+c-min n n0*P.cellsOf e)=j*P.cellsOf e+c by omega]
                 simpa using hu)
          exact⟨_,_,hrun,cx,E _,S', .int .i64 _⟩
         |ms0 _ en hen hnn=>rw[S.may id en ob hen Sd AjS]at hnn;cases hnn
     exact core hn0
    ·exact h.elim
   ·exact h.elim
  ·exact h.elim
 ·exact h.elim
theorem Aep {c:Call} {k:IntKind} {x y:Int} (ho:o.op=.call c) (hc:c.callee=.builtin .min) (hx:c.args.toList.map ev= [.int k x, .int k y]):EY P o s ev (.int k (min x y)) s:=by
 obtain⟨a1,a2,hab,h1,h2⟩:=AdO hx
 have hma:a1∈o.op.operands.toList:=by simp[ho,Op.operands,Call.operands,hc,hab]
 have hmb:a2∈o.op.operands.toList:=by simp[ho,Op.operands,Call.operands,hc,hab]
 have he: ∀ρ,execOp ρ o=(do pure (.value (<- Builtin.min_ c.argTypes o.type #[ρ a1,ρ a2]))):=fun ρ=>by rw[Jh ho hc,hab];simp[builtin]
 refine EY.value he fun V w cx ρ S R=>?_
 have e1:=(h1▸R a1 hma).Dx
 have e2:=(h2▸R a2 hmb).Dx
 refine⟨.int k (min x y),?_, .int k _⟩
 simp only[Builtin.min_,Builtin.min2,e1,e2]
 simp[Builtin.min2]
 split<;>congr 1<;>omega
theorem Aeo {c:Call} {k:IntKind} {x y:Int} (ho:o.op=.call c) (hc:c.callee=.builtin .max) (hx:c.args.toList.map ev= [.int k x, .int k y]):EY P o s ev (.int k (max x y)) s:=by
 obtain⟨a1,a2,hab,h1,h2⟩:=AdO hx
 have hma:a1∈o.op.operands.toList:=by simp[ho,Op.operands,Call.operands,hc,hab]
 have hmb:a2∈o.op.operands.toList:=by simp[ho,Op.operands,Call.operands,hc,hab]
 have he: ∀ρ,execOp ρ o=(do pure (.value (<- Builtin.max_ c.argTypes o.type #[ρ a1,ρ a2]))):=fun ρ=>by rw[Jh ho hc,hab];simp[builtin]
 refine EY.value he fun V w cx ρ S R=>?_
 have e1:=(h1▸R a1 hma).Dx
 have e2:=(h2▸R a2 hmb).Dx
 refine⟨.int k (max x y),?_, .int k _⟩
 simp only[Builtin.max_,Builtin.max2,e1,e2]
 simp[Builtin.max2]
 split<;>congr 1<;>omega
theorem Aag {c:Call} {x:AV} {K:AV->Prop} (ho:o.op=.call c) (hc:c.callee=.builtin .unsafeSliceData) (hx:c.args.toList.map ev= [x]) (h:Aff P s o.type x K): ∃r,K r/\EY P o s ev r s:=by
 obtain⟨a,hab,h1⟩:=Akt hx
 have hma:a∈o.op.operands.toList:=by simp[ho,Op.operands,Call.operands,hc,hab]
 have he: ∀ρ,execOp ρ o=(do pure (.value (<- Builtin.unsafeSliceData_ c.argTypes o.type #[ρ a]))):=fun ρ=>by rw[Jh ho hc,hab];simp[builtin]
 unfold Aff at h
 split at h
 ·rename_i id n
  split at h
  ·rename_i ob e Sd hty
   obtain⟨hn0,hK⟩:=h
   refine⟨_,hK,EY.made he fun V w cx ρ S R=>?_⟩
   have hra:=R a hma
   rw[h1]at hra
   generalize ρ a=va at hra
   cases hra with
   |ms _ _ cap en hen hnn hn hcap htot hmax=>
    obtain⟨cur,RO⟩:=S.obj id en ob hen Sd hnn
    by_cases hc0:cap=0
    ·subst hc0
     have hn':n=0:=by omega
     subst hn'
     refine⟨_,_,Lib.run_unsafeSliceData_zero w c.argTypes o.type e hty ⟨en.b,0,none⟩ 0 (ob.ety,cur.size) RO.shape,cx,Ext.grown rfl rfl rfl (by simp) (fun b hb=>heap_alloc_old w _ b hb),S.grown (by simp) (fun b hb=>heap_alloc_old w _ b hb), .sd _ _ _ fun h=>absurd h (Nat.lt_irrefl _)⟩
    ·exact⟨_,w,Lib.run_unsafeSliceData_row w c.argTypes o.type _ n cap hc0,cx,Ext.refl,S, .sd _ _ _ fun _=>⟨en,hen,hnn,hn,rfl⟩⟩
   |ms0 _ en hen hnn=>exact⟨_,w,Lib.run_unsafeSliceData_nil w c.argTypes o.type 0 0,cx,Ext.refl,S, .sd _ _ _ fun h=>absurd h (Nat.lt_irrefl _)⟩
  ·exact h.elim
 ·exact h.elim
theorem ZF {w:World} : ∀(l:List Int) (a:Addr) (acc:ByteArray),(∀j x,l[j]? =some x->w.cell? (a.add j)=some (.int .u8 x))->
  (loadBytes a acc l.length).run P.toProgram w=.ok ⟨acc.data++(l.map fun n=>UInt8.ofNat n.toNat).toArray⟩ w
 | [],a,acc,_=>by simp[loadBytes]
 |x::l,a,acc,h=>by
  have h0:w.cell? a=some (.int .u8 x):=by
   have:=h 0 x rfl
   simpa[Addr.add]using this
  have ih:=ZF (w:=w) l (a.add 1) (acc.push (UInt8.ofNat x.toNat)) (fun j y hy=>by
   have:=h (j+1) y (by simpa using hy)
   have e:(a.add 1).add j=a.add (j+1):=by
    unfold Addr.add
    by_cases hj:j=0
    ·subst hj;simp
    ·simp[hj];omega
   rw[e];exact this)
  simp only[List.length_cons,loadBytes,Sem.run_bind,run_load,h0,Result.andThen]
  have hx:x.toNat.toUInt8=UInt8.ofNat x.toNat:=rfl
  rw[hx,ih]
  congr 1
  apply ByteArray.ext
  simp[ByteArray.push]
theorem V3 {w:World} (pt it ty e:TypeId) (hp:P.underlying pt=some (.pointer e)) (hc:P.cellsOf e=1) (g cells:Nat) (hsh:w.shape? g=some (e,cells)) (l:List Int) (h0:l≠ []) (hn:l.length<=cells) (h63:l.length<=9223372036854775807)
  (hcell: ∀j x,l[j]? =some x->w.cell? ((⟨g,0,none⟩:Addr).add j)=some (.int .u8 x)):
  (Builtin.unsafeString_ #[pt,it] ty #[.pointer (some ⟨g,0,none⟩), .int .i64 l.length]).run P.toProgram w=.ok (.string (strOfNums l)) (w.freeze ⟨g,0,none⟩ l.length):=by
 have hl:l.length≠0:=by simpa using h0
 have hlb:=ZF (P:=P) (w:=w) l ⟨g,0,none⟩ .empty hcell
 have hlies:=Lib.liesAt_bytes (P:=P.toProgram) hc (cells/P.cellsOf e) l.length (by rw[hc];simpa using hn)
 have h63': ¬(9223372036854775807:Int)<(l.length:Int):=by omega
 have hdef:Builtin.unsafeString_ #[pt,it] ty #[.pointer (some ⟨g,0,none⟩), .int .i64 l.length]=
   (do
       let n <- asInt (.int .i64 l.length)
       if n<0 then runtimePanic (.error "unsafe.String: len out of range")
       if n>IntKind.i64.max then unsupported (.unsafePointer "String: a length above the largest int")
       if n=0 then pure (.string .empty)
       else if <- variablesAt ⟨g,0,none⟩ (<- elemOf pt) n.toNat then do
         let s <- loadBytes ⟨g,0,none⟩ .empty n.toNat
         freeze ⟨g,0,none⟩ n.toNat
         pure (.string s)
       else unsupported (.unsafePointer "String: not so many bytes at ptr")):=rfl
 rw[hdef]
 have hmax:IntKind.i64.max=9223372036854775807:=rfl
 have hneg: ¬(l.length:Int)<0:=by omega
 simp[asInt,asIntOf,hmax,h63',hneg,hl,variablesAt,hsh,elemOf,run_underlying hp,hlies,hlb,strOfNums]
theorem tZ (w:World) (a:Addr) (n b:Nat) (h:b≠a.block):(w.freeze a n).heap[b]? =w.heap[b]? :=by
 unfold World.freeze
 split
 ·rfl
 ·simp only[Array.getElem?_modify]
  rw[if_neg (fun e=>h e.symm)]
theorem yB (w:World) (a:Addr) (n:Nat):(w.freeze a n).heap.size=w.heap.size:=by
 unfold World.freeze
 split<;>simp
theorem Bj.frozen {L:Laid} {V:Nat->Prop} {w w':World} {cx:Cx} {s:Store} (S:Bj L V w cx s) {id:Nat} {e:Qr} {ob:E8} {cur:Array Value} {fz:Nat×Nat} (he:cx[id]? =some e) (ho:s[id]? =some (some ob)) (hnn:e.Fg=false) (hro:ob.ro=false)
  (RO:Jy w cx (Av V cx s) e ob cur) (hcur:w'.heap[e.b]? =some (.cells cur ob.ety fz))
  (os:w'.os=w.os) (tape:w'.tape=w.tape) (output:w'.output=w.output) (hs:w'.heap.size=w.heap.size) (hk: ∀b,b≠e.b->w'.heap[b]? =w.heap[b]?):
  Bj L V w' cx (s.set id (some { ob with ro:=true }))/\ ∀m,Ext m V w w' cx cx s (s.set id (some { ob with ro:=true })):=by
 have hlt:id<s.length:=(List.getElem?_eq_some_iff.1 ho).1
 have F:=H7.ro s id ob ho
 have get: ∀(j:Nat) (o':E8),(s.set id (some { ob with ro:=true }))[j]? =some (some o')->(j=id/\o'= { ob with ro:=true })∨(j≠id/\s[j]? =some (some o')):=fun j o' h=>by
  rw[List.getElem?_set]at h
  by_cases hi:id=j
  ·rw[if_pos hi,if_pos hlt]at h
   cases h
   exact .inl ⟨hi.symm,rfl⟩
  ·rw[if_neg hi]at h
   exact .inr ⟨fun h'=>hi h'.symm,h⟩
 have qP:Wr cx s e.b:=⟨id,e,ob,he,ho,hro,hnn,rfl⟩
 have hkeep: ∀b,¬Wr cx s b->w'.heap[b]? =w.heap[b]? :=fun b hb=>hk b fun h=>hb (h▸qP)
 have Sc: ∀ {x:AV} {v:Value},Rel w cx (Av V cx s) x v->Rel w' cx (Av V cx (s.set id (some { ob with ro:=true }))) x v:=fun r=>
  r.move (Nat.le_of_eq hs.symm) (fun b _ hA=>hkeep b fun h=>hA (.inr h)) (fun b _ hA hA'=>hA (hA'.imp (fun h=>h) F.back)) fun _ _ h=>h
 have S1:=S.fewer F
 refine⟨⟨fun b hb=>by rw[hs];exact S.low b hb,S1.len,fun i e' o' he' ho' hn=>?_,fun i e' o' he' ho' hn=>S1.gM i e' o' he' ho' hn,fun i e' o' he' ho' hm=>S1.may i e' o' he' ho' hm,fun i e' o' he' ho' hn=>S1.apart i e' o' he' ho' hn,S1.inj,S.glob.move (Nat.le_of_eq hs.symm) (fun b _ hA=>hkeep b fun h=>hA (.inr h)) fun b _ hA hA'=>hA (hA'.imp (fun h=>h) F.back)⟩,
  fun m=>⟨os,tape,output,Nat.le_of_eq hs.symm,fun b _ hb=>hkeep b hb,fun b _ hA hA'=>hA (hA'.imp (fun h=>h) F.back),fun b _ hA hA'=>hA (F.back hA'),fun _ _ _ h=>h⟩⟩
 rcases get i o' ho' with ⟨rfl,rfl⟩|⟨hne,ho'⟩
 ·rw[he]at he'
  cases he'
  refine⟨cur,⟨fz,hcur,fun h=>by cases h⟩,RO.tot,RO.BU,RO.len,RO.ok,RO.fits,RO.size,fun j c x hj hx=>?_⟩
  obtain⟨v,h1,h2,h3⟩:=RO.cells j c x hj hx
  exact⟨v,h1,h2,Sc h3⟩
 ·obtain⟨Ajs,R⟩:=S.obj i e' o' he' ho' hn
  have hne':e'.b≠e.b:=S.inj i id e' e o' ob he' he ho' ho hn hnn hne (.inr hro)
  refine⟨Ajs,by rw[hk _ hne'];exact R.hp,R.tot,R.BU,R.len,R.ok,R.fits,R.size,fun j c x hj hx=>?_⟩
  obtain⟨v,h1,h2,h3⟩:=R.cells j c x hj hx
  exact⟨v,h1,h2,Sc h3⟩
theorem tY {w:World} {b n:Nat} {cur:Array Value} {t:TypeId} (h:w.heap[b]? =some (.cells cur t (0,0))): ∃fz,(w.freeze ⟨b,0,none⟩ n).heap[b]? =some (.cells cur t fz):=by
 unfold World.freeze
 split
 ·exact⟨_,h⟩
 ·simp only[Array.getElem?_modify,if_true,h,Option.map_some]
  exact⟨_,rfl⟩
theorem Aai {c:Call} {x y:AV} {K:AV->Store->Prop} (ho:o.op=.call c) (hc:c.callee=.builtin .unsafeString) (hx:c.args.toList.map ev= [x,y]) (h:Ag2 P s c.argTypes.toList x y K): ∃r s',K r s'/\EY P o s ev r s':=by
 obtain⟨a,b,hab,h1,h2⟩:=AdO hx
 have hma:a∈o.op.operands.toList:=by simp[ho,Op.operands,Call.operands,hc,hab]
 have hmb:b∈o.op.operands.toList:=by simp[ho,Op.operands,Call.operands,hc,hab]
 unfold Ag2 at h
 split at h
 ·rename_i pt it id n m hts
  have hts:=Ahl hts
  have he: ∀ρ,execOp ρ o=(do pure (.value (<- Builtin.unsafeString_ #[pt,it] o.type #[ρ a,ρ b]))):=fun ρ=>by rw[Jh ho hc,hts,hab];simp[builtin]
  split at h
  ·rename_i ob e Sd hty
   replace h:=Bn h
   obtain⟨hq,h⟩:=h
   simp only[Bool.and_eq_true,beq_iff_eq]at hq
   obtain⟨hc1,hro,Ld,Tt⟩:=hq
   have hro:ob.ro=false:=by simpa using hro
   split at h
   ·rename_i l hrow
    obtain⟨rfl,hn,h63,hK⟩:=h
    refine⟨_,_,hK,EY.made he fun V w cx ρ S R=>?_⟩
    have hra:=R a hma
    have hrb:=R b hmb
    rw[h1]at hra
    rw[h2]at hrb
    rw[hrb.Dx]
    generalize ρ a=va at hra
    cases hra with
    |sd _ _ ad had=>
     by_cases h0:n=0
     ·subst h0
      exact⟨_,w,Lib.run_unsafeString_none w pt it o.type ad,cx,Ext.fewer (H7.ro s id ob Sd),S.fewer (H7.ro s id ob Sd), .str _⟩
     ·obtain⟨en,hen,hnn,hlen,rfl⟩:=had (by omega)
      obtain⟨cur,RO⟩:=S.obj id en ob hen Sd hnn
      have hlt:(l.take n).length=n:=by simp[hn]
      have hes:en.BU=1:=RO.BU.trans Ld
      have hget: ∀j x,(l.take n)[j]? =some x->w.cell? ((⟨en.b,0,none⟩:Addr).add j)=some (.int .u8 x):=fun j x hj=>by
            have hj':j<n:=by have:=(List.getElem?_eq_some_iff.1 hj).1;omega
            have hlj:l[j]? =some x:=by rwa[List.getElem?_take,if_pos hj']at hj
            have hel:j<en.len:=by omega
            obtain⟨v,g1,g2,g3⟩:=RO.cells j 0 (.int .u8 (l.getD j 0)) hel (by rw[hrow];rfl)
            rw[g3.Dx]at g1
            rw[hes,Nat.mul_one,Nat.add_zero]at g1
            rw[Addr.add_lit,Nat.zero_add,RO.cell,g1]
            simp[List.getD,hlj]
      have hrun:=V3 (P:=P) (w:=w) pt it o.type e hty hc1 en.b cur.size (by rw[<- Tt];exact RO.shape) (l.take n) (by intro h;rw[h]at hlt;exact h0 hlt.symm) (by rw[hlt];have:=RO.fits;have:=RO.tot;rw[hes]at*;omega) (by rw[hlt];exact h63) hget
      rw[hlt]at hrun
      obtain⟨fz,hfz⟩:=tY (n:=n) (RO.heap hro)
      obtain⟨G1,G2⟩:=S.frozen (w':=w.freeze ⟨en.b,0,none⟩ n) hen Sd hnn hro RO hfz (by unfold World.freeze;split<;>rfl) (by unfold World.freeze;split<;>rfl) (by unfold World.freeze;split<;>rfl) (yB w _ n) (fun b hb=>tZ w ⟨en.b,0,none⟩ n b hb)
      exact⟨_,_,hrun,cx,G2 _,G1, .str _⟩
   ·exact h.elim
  ·exact h.elim
 ·exact h.elim
end
end Go.SE
