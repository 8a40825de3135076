import Derived.Test.YtkeokkmhhhhoiaaGreatDoorSe3
namespace Go.SE
open Go
set_option linter.unusedVariables false
set_option linter.unusedSimpArgs false
section
variable {P:PL} {o:Oper} {s:Store} {ev:Operand->AV}
theorem Cq {t:TypeId} (h:0<P.cellsOf t) (w:World):(sizeOf t).run P w=.ok (P.cellsOf t) w:=by
 unfold Program.cellsOf at*
 cases hi:P.info? t with
 |none=>rw[hi]at h;simp at h
 |some i=>simp[sizeOf,typeInfo,hi]
theorem bQ {t:TypeId} {x:Operand} {f:Nat} {K:AV->Prop} (ho:o.op=.fieldAddr t x f) (h:Vg P t (ev x) f K): ∃r,K r/\EY P o s ev r s:=by
 have hx:x∈o.op.operands.toList:=by simp[ho,Op.operands]
 unfold Vg at h
 split at h
 ·rename_i fs ht
  split at h
  ·rename_i fd hfd
   obtain⟨hp,h⟩:=Bn h
   have hp:0<P.cellsOf fd.type:=by simpa using hp
   have run: ∀(a:Addr) (w:World),(Instr.fieldAt t (.pointer (some a)) f).run P w=.ok (.pointer (some (a.add fd.offset))) w:=fun a w=>by
    have hne: ¬P.cellsOf fd.type=0:=by omega
    simp[Instr.fieldAt,run_underlying ht,hfd,Instr.sureAddr,fieldPlace,Cq hp,hne]
   split at h
   ·rename_i e off hev
    refine⟨_,h,EY.value (sem:=fun ρ=>Instr.fieldAt t (ρ x) f) (fun ρ=>by simp[execOp,ho]) fun V w cx ρ S R=>?_⟩
    have hr:=R x hx
    rw[hev]at hr
    generalize ρ x=p at hr
    cases hr with
    |ip _ _ b o' vals Gr hA hb hmem hrel=>
     exact⟨_,run _ w,by rw[Addr.add_lit,Nat.add_assoc];exact .ip e (off+fd.offset) b o' vals Gr hA hb hmem hrel⟩
   ·rename_i id i off hev
    refine⟨_,h,EY.value (sem:=fun ρ=>Instr.fieldAt t (ρ x) f) (fun ρ=>by simp[execOp,ho]) fun V w cx ρ S R=>?_⟩
    have hr:=R x hx
    rw[hev]at hr
    generalize ρ x=p at hr
    cases hr with
    |mp _ _ _ e he hnn hi=>exact⟨_,run _ w,by rw[Addr.add_lit,Nat.add_assoc];exact .mp id i (off+fd.offset) e he hnn hi⟩
   ·exact h.elim
  ·exact h.elim
 ·exact h.elim
theorem AgN {t:TypeId} {cs:List AV} {off:Nat} {K:AV->Prop} (h:Zf P t (.agg cs) off K):
  ∃r,K r/\ ∀w cx A us,Rel w cx A (.agg cs) (.agg us)-> ∃u,(part t us off).run P w=.ok u w/\Rel w cx A r u:=by
 unfold Zf at h
 split at h
 ·rename_i d ht
  split at h
  ·rename_i hd
   obtain⟨h1,h2⟩:=Bn h
   refine⟨_,h2,fun w cx A us R=>?_⟩
   refine⟨_,by simp[part,OC ht,hd,run_sizeOf ht];rfl,?_⟩
   have h1:off+P.cellsOf t<=cs.length:=by simpa[AV.A9]using h1
   cases R with
   |agg _ vs hl hone hrel=>
    unfold Ab3
    have e:(vs.toArray.extract off (off+P.cellsOf t))=((vs.drop off).take (P.cellsOf t)).toArray:=by
         apply Array.ext'
         simp[List.extract_eq_take_drop]
    rw[e]
    cases hq:(off==0&&(AV.agg cs).A9==P.cellsOf t)with
    |false=>
     refine .agg _ _ (by simp[AV.cells,hl]) (fun v hv=>hone v (List.mem_of_mem_drop (List.mem_of_mem_take hv))) fun c x v hx hv=>?_
     simp only[AV.cells,List.getElem?_take,List.getElem?_drop]at hx hv
     by_cases hc:c<P.cellsOf t
     ·rw[if_pos hc]at hx hv
      exact hrel _ x v hx hv
     ·rw[if_neg hc]at hx
      cases hx
    |true=>
     simp only[Bool.and_eq_true,beq_iff_eq,AV.A9]at hq
     obtain⟨rfl,hq⟩:=hq
     have:(vs.drop 0).take (P.cellsOf t)=vs:=by rw[List.drop_zero,<- hq,hl,List.take_length]
     rw[this]
     exact .agg cs vs hl hone hrel
  ·rename_i hd
   obtain⟨h1,h2⟩:=Bn h
   refine⟨_,h2,fun w cx A us R=>?_⟩
   have h1:off<cs.length:=by simpa[AV.A9]using h1
   cases R with
   |agg _ vs hl hone hrel=>
    have hlt:off<vs.length:=by omega
    exact⟨vs[off],by simp[part,OC ht,hd,hlt],hrel off _ _ (by simp[AV.cellAt,List.getD,h1]) (by simp[hlt])⟩
 ·exact h.elim
theorem vX {t:TypeId} {x:Operand} {f:Nat} {K:AV->Prop} (ho:o.op=.field t x f) (h:Aa3 P t (ev x) f K): ∃r,K r/\EY P o s ev r s:=by
 have hx:x∈o.op.operands.toList:=by simp[ho,Op.operands]
 unfold Aa3 at h
 split at h
 ·rename_i fs ht
  split at h
  ·rename_i fd cs hfd hev
   obtain⟨r,hr,hu⟩:=AgN h
   refine⟨r,hr,EY.value (sem:=fun ρ=>Instr.field t (ρ x) f) (fun ρ=>by simp[execOp,ho]) fun V w cx ρ S R=>?_⟩
   have hrx:=R x hx
   rw[hev]at hrx
   generalize ρ x=p at hrx
   have: ∃us,p=.agg us:=by cases hrx;exact⟨_,rfl⟩
   obtain⟨us,rfl⟩:=this
   obtain⟨u,h1,h2⟩:=hu w cx _ us hrx
   exact⟨u,by simp[Instr.field,run_underlying ht,hfd,asAgg,h1],h2⟩
  ·exact h.elim
 ·exact h.elim
theorem bS {t:TypeId} {x i:Operand} {K:AV->Prop} (ho:o.op=.indexAddr t x i) (h:Yu P s t (ev x) (ev i) K): ∃r,K r/\EY P o s ev r s:=by
 have hx:x∈o.op.operands.toList:=by simp[ho,Op.operands]
 have hi:i∈o.op.operands.toList:=by simp[ho,Op.operands]
 unfold Yu at h
 split at h
 ·rename_i e k n ht hie
  have run: ∀(a:Addr) (len cap:Nat) (w:World),0<P.cellsOf e->0<=n->n<len->(Instr.indexAt t (.slice (some a) len cap) (.int k n)).run P w=.ok (.pointer (some (a.add (n.toNat*P.cellsOf e)))) w:=fun a len cap w hp h0 h1=>by
   simp[Instr.indexAt,asIntOf,run_underlying ht,h0,h1,Cq hp]
  split at h
  ·rename_i nl m get hev
   obtain⟨h0,h1,h⟩:=h
   obtain⟨hq,h⟩:=Bn h
   simp only[Bool.and_eq_true,beq_iff_eq]at hq
   obtain⟨hsz,hp⟩:=hq
   have hp:0<P.cellsOf e:=by simpa using hp
   refine⟨_,h,EY.value (sem:=fun ρ=>Instr.indexAt t (ρ x) (ρ i)) (fun ρ=>by simp[execOp,ho]) fun V w cx ρ S R=>?_⟩
   have dP:=R i hi
   rw[hie]at dP
   rw[dP.Dx]
   have hrx:=R x hx
   rw[hev]at hrx
   generalize ρ x=p at hrx
   cases hrx with
   |sl _ _ _ a cap BU vals hnil hcap hmax hz hmem Gr hrel=>
    obtain⟨b,off,rfl,hA,hb,hm⟩:=hmem (by omega)
    have hlt:n.toNat<m:=by omega
    obtain⟨hi1,hi2⟩:=Gr _ hlt
    rw[hsz]at hi2
    refine⟨_,run _ _ _ _ hp h0 h1,?_⟩
    rw[Addr.add_lit,hi2]
    exact .ip (get n.toNat) 0 b (off+n.toNat*BU) (vals n.toNat) hi1 hA hb (fun c y hy=>by rw[Nat.add_assoc];exact hm _ c y hlt hy) (fun c y hy=>hrel _ c y hlt hy)
  ·rename_i id m hev
   split at h
   ·rename_i ob Sd
    obtain⟨hq,h0,h1,h⟩:=Bn h
    simp only[Bool.and_eq_true,beq_iff_eq]at hq
    obtain⟨hsz,hp⟩:=hq
    have hp:0<P.cellsOf e:=by simpa using hp
    refine⟨_,h,EY.value (sem:=fun ρ=>Instr.indexAt t (ρ x) (ρ i)) (fun ρ=>by simp[execOp,ho]) fun V w cx ρ S R=>?_⟩
    have dP:=R i hi
    rw[hie]at dP
    rw[dP.Dx]
    have hrx:=R x hx
    rw[hev]at hrx
    generalize ρ x=p at hrx
    cases hrx with
    |ms _ _ cap en he hnn hn hcap htot hmax=>
     refine⟨_,run _ _ _ _ hp h0 h1,?_⟩
     obtain⟨cur,RO⟩:=S.obj id en ob he Sd hnn
     rw[Addr.add_lit,Nat.zero_add,<- hsz,<- RO.BU]
     exact .mp id n.toNat 0 en he hnn (by omega)
    |ms0 _ en he hnn=>omega
   ·exact h.elim
  ·rename_i id off m hev
   split at h
   ·rename_i ob Sd
    obtain⟨hq,h0,h1,h⟩:=Bn h
    simp only[Bool.and_eq_true,beq_iff_eq]at hq
    obtain⟨hsz,hp⟩:=hq
    have hp:0<P.cellsOf e:=by simpa using hp
    refine⟨_,h,EY.value (sem:=fun ρ=>Instr.indexAt t (ρ x) (ρ i)) (fun ρ=>by simp[execOp,ho]) fun V w cx ρ S R=>?_⟩
    have dP:=R i hi
    rw[hie]at dP
    rw[dP.Dx]
    have hrx:=R x hx
    rw[hev]at hrx
    generalize ρ x=p at hrx
    cases hrx with
    |LP _ _ _ cap o' en he hnn hn hcap hoff hmax=>
     refine⟨_,run _ _ _ _ hp h0 h1,?_⟩
     obtain⟨cur,RO⟩:=S.obj id en ob he Sd hnn
     rw[Addr.add_lit,hoff (by omega),<- hsz,<- RO.BU,<- Nat.add_mul]
     exact .mp id (off+n.toNat) 0 en he hnn (by omega)
    |XK _ en he hnn=>omega
   ·exact h.elim
  ·exact h.elim
 ·rename_i len e k n ht hie
  obtain⟨hp,h⟩:=Bn h
  have hp:0<P.cellsOf e:=by simpa using hp
  have run: ∀(a:Addr) (w:World),0<=n->n<len->(Instr.indexAt t (.pointer (some a)) (.int k n)).run P w=.ok (.pointer (some (a.add (n.toNat*P.cellsOf e)))) w:=fun a w h0 h1=>by
   simp[Instr.indexAt,asIntOf,run_underlying ht,Instr.sureAddr,h0,h1,Cq hp]
  split at h
  ·rename_i v off hev
   obtain⟨h0,h1,h⟩:=h
   refine⟨_,h,EY.value (sem:=fun ρ=>Instr.indexAt t (ρ x) (ρ i)) (fun ρ=>by simp[execOp,ho]) fun V w cx ρ S R=>?_⟩
   have dP:=R i hi
   rw[hie]at dP
   rw[dP.Dx]
   have hrx:=R x hx
   rw[hev]at hrx
   generalize ρ x=p at hrx
   cases hrx with
   |ip _ _ b o' vals Gr hA hb hmem hrel=>
    exact⟨_,run _ w h0 h1,by rw[Addr.add_lit,Nat.add_assoc];exact .ip v _ b o' vals Gr hA hb hmem hrel⟩
  ·rename_i id j off hev
   split at h
   ·rename_i ob Sd
    split at h
    ·rename_i hq
     obtain⟨h0,h1,h⟩:=h
     simp only[Bool.and_eq_true,beq_iff_eq]at hq
     obtain⟨⟨⟨⟨rfl,rfl⟩,hsz⟩,hn⟩,hct⟩:=hq
     refine⟨_,h,EY.value (sem:=fun ρ=>Instr.indexAt t (ρ x) (ρ i)) (fun ρ=>by simp[execOp,ho]) fun V w cx ρ S R=>?_⟩
     have dP:=R i hi
     rw[hie]at dP
     rw[dP.Dx]
     have hrx:=R x hx
     rw[hev]at hrx
     obtain⟨en,cur,he,hnn,hi',hv,RO⟩:=hrx.WG S Sd
     rw[hv]
     refine⟨_,run _ w h0 h1,?_⟩
     rw[Addr.add_lit,<- hsz,<- RO.BU]
     have:=Rel.mp (w:=w) (A:=Av V cx s) id n.toNat 0 en he hnn (by rw[RO.len,<- hn];omega)
     simpa using this
    ·obtain⟨h0,h1,h⟩:=h
     refine⟨_,h,EY.value (sem:=fun ρ=>Instr.indexAt t (ρ x) (ρ i)) (fun ρ=>by simp[execOp,ho]) fun V w cx ρ S R=>?_⟩
     have dP:=R i hi
     rw[hie]at dP
     rw[dP.Dx]
     have hrx:=R x hx
     rw[hev]at hrx
     generalize ρ x=p at hrx
     cases hrx with
     |mp _ _ _ en he hnn hi'=>exact⟨_,run _ w h0 h1,by rw[Addr.add_lit,Nat.add_assoc];exact .mp id j _ en he hnn hi'⟩
   ·exact h.elim
  ·exact h.elim
 ·exact h.elim
theorem iO (b:ByteArray) (i:Nat) (h:i<b.size):b[i]? =some (b.data.toList.getD i 0):=by
 rw[getElem?_pos b i h]
 have h':i<b.data.toList.length:=by simpa using h
 simp only[List.getD,List.getElem?_eq_getElem h',Option.getD_some]
 rfl
theorem vY {t:TypeId} {x i:Operand} {K:AV->Prop} (ho:o.op=.index t x i) (h:Abp P t (ev x) (ev i) K): ∃r,K r/\EY P o s ev r s:=by
 have hx:x∈o.op.operands.toList:=by simp[ho,Op.operands]
 have hi:i∈o.op.operands.toList:=by simp[ho,Op.operands]
 unfold Abp at h
 split at h
 ·rename_i b k n ht hev hie
  obtain⟨h0,h1,h⟩:=h
  refine⟨_,h,EY.value (sem:=fun ρ=>Instr.index t (ρ x) (ρ i)) (fun ρ=>by simp[execOp,ho]) fun V w cx ρ S R=>?_⟩
  have dP:=R i hi
  rw[hie]at dP
  have hrx:=R x hx
  rw[hev]at hrx
  rw[dP.Dx,hrx.QB]
  exact⟨I9 _,by simp[Instr.index,asIntOf,run_underlying ht,h0,iO b n.toNat (by omega),bt,I9], .Kg _ _⟩
 ·rename_i len e k l k' n ht hev hie
  obtain⟨hq,h0,h1,h2,h⟩:=Bn h
  simp only[Bool.and_eq_true,beq_iff_eq]at hq
  obtain⟨hsz,hd⟩:=hq
  split at hd
  ·rename_i d hde
   refine⟨_,h,EY.value (sem:=fun ρ=>Instr.index t (ρ x) (ρ i)) (fun ρ=>by simp[execOp,ho]) fun V w cx ρ S R=>?_⟩
   have dP:=R i hi
   rw[hie]at dP
   have hrx:=R x hx
   rw[hev]at hrx
   rw[dP.Dx]
   generalize ρ x=p at hrx
   cases hrx
   have hlt:n.toNat<l.length:=by omega
   refine⟨I9 _,?_, .Kg _ _⟩
   simp[Instr.index,asIntOf,run_underlying ht,h0,h1,run_sizeOf hde,hsz,part,OC hde,(by simpa using hd:Wt d=false),hlt,I9,List.getD]
  ·cases hd
 ·rename_i len e cs k' n ht hev hie
  obtain⟨hq,h0,h1,h2,h⟩:=Bn h
  simp only[Bool.and_eq_true,beq_iff_eq]at hq
  obtain⟨hsz,hd⟩:=hq
  split at hd
  ·rename_i d hde
   refine⟨_,h,EY.value (sem:=fun ρ=>Instr.index t (ρ x) (ρ i)) (fun ρ=>by simp[execOp,ho]) fun V w cx ρ S R=>?_⟩
   have dP:=R i hi
   rw[hie]at dP
   have hrx:=R x hx
   rw[hev]at hrx
   rw[dP.Dx]
   generalize ρ x=p at hrx
   cases hrx with
   |agg _ vs hl hone hrel=>
    have hlt:n.toNat<vs.length:=by omega
    refine⟨vs[n.toNat],?_,hrel n.toNat _ _ (by simp[List.getD,show n.toNat<cs.length by omega]) (by simp[hlt])⟩
    simp[Instr.index,asIntOf,run_underlying ht,h0,h1,run_sizeOf hde,hsz,part,OC hde,(by simpa using hd:Wt d=false),hlt]
  ·cases hd
 ·exact h.elim
end
end Go.SE
