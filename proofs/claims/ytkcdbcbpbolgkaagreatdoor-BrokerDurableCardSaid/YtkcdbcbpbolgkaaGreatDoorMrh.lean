/- Texts Axc, Ay. -/
import Derived.Test.YtkcdbcbpbolgkaaGreatDoorMrg
import Derived.RangeFuncRecord
set_option linter.unusedSimpArgs false
set_option linter.unusedVariables false
set_option linter.defProp false
set_option maxRecDepth 100000
noncomputable section
namespace Go.Abs
section
variable {P:Program} {mu:List Nat} {N k0:Nat} {g g0:Ghost} {w w0:World} {st:St} {a:Act}
structure Marks (g0:Ghost) (w0:World) (g:Ghost) (w:World) (ds:List Deferred):Prop where
 one: ∀d∈ds,∃b,d.target= .collected b∧w0.heap.size<=b∧g b= .out∧w.heap[b]? =some (.deferred (some []))
 two:ds.Pairwise λd e=>d.target≠e.target
theorem Marks.step {i:List Deferred} {g':Ghost} {w':World} (h:Marks g0 w0 g w i) (hG:G g w g' w'):Marks g0 w0 g' w' i:=by
 refine⟨λd hd=> ?_,h.two⟩;obtain⟨b,h1,h2,h3,e⟩:=h.one d hd;obtain⟨q1,q2⟩:=hG.out b (jA5.1 e).1 h3;exact⟨b,h1,h2,q2,by rw[q1];exact e⟩
theorem Marks.turn {e:List Deferred} {g':Ghost} (h:Marks g0 w0 g w e) (ho: ∀b,g b= .out->g' b= .out):Marks g0 w0 g' w e:=
 ⟨λd hd=>let⟨b,h1,h2,h3,h4⟩:=h.one d hd;⟨b,h1,h2,ho b h3,h4⟩,h.two⟩
end
def q6k (F:Fence) (m:Nat) (P:Program) (l:Nat) (args:Array Value) (W:World) (R:Ending->World->Prop):Prop:=
 ∃fn tmps assign body,(Instr.yield l args).run P W= .ok (.round l fn tmps assign body) W∧RoundIn F m P l fn tmps assign body W R
def ASeq (P:Program) (q:FuncId) (m:List D) (objs:List AObj) (h:List (List D)):Prop:=
 (P.funcs[q]?).any (λfn=>fn.body.isSome&& !(fn.name== "runtime.NumGoroutine"))=true∧
 ∀(g:Ghost) (w:World) (o:List Value) (l:Nat) (J:Nat->World->Prop),Dom g w->o.length=m.length->
  (∀(i:Nat) (v:Value) (d:D),o[i]? =some v->m[i]? =some d->RV g w v d) ->ObjsOk g w [] objs->
  (∀k W W',J k W->W'.os=W.os->W'.tape=W.tape->W'.output=W.output->W'.heap.size=W.heap.size->(∀b,(∀id,g b≠ .obj id) ->W'.heap[b]? =W.heap[b]?) ->J k W') ->
  (∀(k:Nat) (p:List D) (vs:List Value) (W1:World),h[k]? =some p->J k W1->vs.length=p.length->(∀(i:Nat) (v:Value) (d:D),vs[i]? =some v->p[i]? =some d->RV g w v d) ->
   q6k (Fw none) 0 P l vs.toArray W1 λe W'=>e= .returned (.bool true)∧J (k+1) W'∧ ∀b id,g b= .obj id->W'.heap[b]? =W1.heap[b]?) ->
  J 0 w->
  CallsIn (Fw none) 0 P q (#[.func (.yield l) #[] #[]]++o.toArray) w λe W'=>(∃v,e= .returned v)∧J h.length W'
def xh4 (P:Program) (p:FuncId) (m:List Int) (h:List (List D)):Prop:=
 (P.funcs[p]?).any (λfn=>fn.body.isSome&& !(fn.name== "runtime.NumGoroutine"))=true∧
 ∀(w:World) (bx q:Nat) (l:Nat) (J:Nat->World->Prop) (E:World->Prop),
  (∀k W,J k W->(∃(c:Array Value) (e:TypeId),W.heap[bx]? =some (.cells c e (0,0))∧c[0]? =some (.pointer (some ⟨q,0,none⟩)))∧ ∃(c:Array Value) (e:TypeId),W.heap[q]? =some (.cells c e (0,0))∧ ∀(i:Nat) (x:Int),m[i]? =some x->c[i]? =some (Value.int .i64 x)) ->
  (∀(k:Nat) (o:List D) (vs:List Value) (W1:World),h[k]? =some o->J k W1->vs.length=o.length->(∀(i:Nat) (v:Value) (d:D),vs[i]? =some v->o[i]? =some d->RV (λ_=> .out) W1 v d) ->
   q6k (Fw none) 0 P l vs.toArray W1 λe W'=>(e= .returned (.bool true)∧J (k+1) W')∨(e= .returned (.bool false)∧E W')) ->
  J 0 w->
  CallsIn (Fw none) 0 P p (#[.func (.yield l) #[] #[]]++ #[.pointer (some ⟨bx,0,none⟩)]) w λe W'=>(∃v,e= .returned v)∧(J h.length W'∨E W')
def Fr.plain:Fr->Bool
 | []=>true
 |(_,true,.d _)::r=>Fr.plain r
 | _=>false
def ji:List Nat->List D->Fr->Fr
 |p::ps,d::ds,fr=>ji ps ds ((p,true,.d d)::fr)
 | _,_,fr=>fr
theorem Fr.plain_get: ∀{fr:Fr},fr.plain=true-> ∀(k:Nat) (v:Bool) (s:ASlot),fr.get k=some (v,s) ->v=true∧ ∃d,s= .d d
 | [],_,k,v,s,h=>by simp[Fr.get]at h
 |(j,v',s')::r,hp,k,v,s,h=>by
  cases v'<;>cases s'<;>simp only[Fr.plain,jAw]at hp
  simp only[Fr.get]at h;split at h
  ·cases h;exact⟨rfl,_,rfl⟩
  ·exact Fr.plain_get hp k v s h
theorem qeh: ∀(ps:List Nat) (e:List D) (fr:Fr),fr.plain=true->(ji ps e fr).plain=true
 | [],_,_,h=>by simpa[ji]using h
 | _::_,[],_,h=>by simpa[ji]using h
 |p::ps,d::e,fr,h=>by simp only[ji];exact qeh ps e _ (by simpa[Fr.plain]using h)
section
variable {P:Program} {mu:List Nat} {N k0:Nat} {g g' g0:Ghost} {w w' w0:World} {st:St} {a:Act} {T:Nat→Prop}
def FrRV (g:Ghost) (w:World) (fr:Fr) (tmps:Array Value):Prop:= ∀(k:Nat) (d:D),fr.get k=some (true,.d d) ->RV g w (tmps.getD k undef) d
theorem FrRV.mono {fr:Fr} {tmps:Array Value} (h:FrRV g w fr tmps) (e:Dom g w) (l:G g w g' w'):FrRV g' w' fr tmps:=
 λk d hk=>(h k d hk).mono (l.rowsKept e) (λb id i=>l.obj b id (e.lt_obj i) i)
theorem SR.plain (hs:SR N T g w st a) {fr:Fr} (hp:fr.plain=true) {a':Act} (hN:a'.tmps.size=N) (h:FrRV g w fr a'.tmps):SR N T g w {st with fr:=fr} a':=by
 refine⟨hs.dom,trivial,hN,λk v s e=> ?_,hs.objs,hs.inj,hs.ids,⟨hs.wf.live,λk s e t ht=> ?_,hs.wf.os⟩⟩
 ·obtain⟨rfl,d,rfl⟩:=Fr.plain_get hp k v s e;exact⟨λ_=>h k d e,λh=>by cases h⟩
 ·obtain⟨_,d,rfl⟩:=Fr.plain_get hp k _ s e;simp[ASlot.toks]at ht
theorem xcg (hs:SR N T g w st a):FrRV g w st.fr a.tmps:=λk _ hk=>(hs.slots k true _ hk).1 rfl
theorem qv6: ∀(ps:List Nat) (e:List D) (vs:List Value) (fr:Fr) (tmps:Array Value),e.length=ps.length->vs.length=ps.length->(∀p∈ps,p<tmps.size) ->FrRV g w fr tmps->
  (∀(i:Nat) (v:Value) (d:D),vs[i]? =some v->e[i]? =some d->RV g w v d) ->FrRV g w (ji ps e fr) ((ps.zip vs).foldl (λt (p,v)=>t.setIfInBounds p v) tmps)
 | [],[],[],fr,tmps,_,_,_,h,_=>by simpa[ji]using h
 |p::ps,d::e,v::vs,fr,tmps,h1,h2,h3,h,hr=>by
  simp only[ji,List.zip_cons_cons,List.foldl_cons];refine qv6 ps e vs _ _ (by simpa using h1) (by simpa using h2) (λq hq=>by simpa using h3 q (jA9 _ hq)) ?_ (λi v d hv hd=>hr (i+1) v d (by simpa using hv) (by simpa using hd));intro k x l;simp only[Fr.get]at l;split at l
  ·rename_i m;subst m;cases l;have hp:=h3 p jA7;rw[jBg,Array.getElem?_setIfInBounds_self_of_lt hp];exact hr 0 v d rfl rfl
  ·rename_i m;rw[jBg,jEi m,<- jBg];exact h k x l
 | [],_::_,_,_,_,h,_,_,_,_=>by simp at h
 | _::_,[],_,_,_,h,_,_,_,_=>by simp at h
 | [],[],_::_,_,_,_,h,_,_,_=>by simp at h
 | _::_,_::_,[],_,_,_,h,_,_,_=>by simp at h
theorem ql4: ∀(l:List (Nat×Value)) (tmps:Array Value),(l.foldl (λt (p,v)=>t.setIfInBounds p v) tmps).size=tmps.size
 | [],_=>rfl
 |x::l,tmps=>by rw[List.foldl_cons,ql4 l];simp
theorem G.beyond (h:G g0 w0 g w) (o:w'.os=w.os) (ht:w'.tape=w.tape) (ho:w'.output=w.output) (m:w.heap.size<=w'.heap.size)
  (l: ∀b r,b<w0.heap.size->g0 b=r->(∀t,r≠ .uni t) ->w'.heap[b]? =w.heap[b]?):G g0 w0 g w':=by
 refine⟨o.trans h.os,ht.trans h.tape,ho.trans h.output,jBj h.size m,λb e d=> ?_,λb n e d=> ?_,λb n t e d=> ?_,λb id e d=> ?_⟩
 ·rw[l b _ e d (by simp)];exact h.out b e d
 ·rw[l b _ e d (by simp)];exact h.rowN b n e d
 ·obtain⟨n',o',q1,q2,q3⟩:=h.rowS b n t e d;exact⟨n',o',q1,q2,λi u hi hu=>by rw[jw (l b _ e d (by simp))];exact q3 i u hi hu⟩
 ·rw[jf (l b _ e d (by simp))];exact h.obj b id e d
theorem xch (hs:SR N T g w st a) {ι:List Nat} {fo:List AObj} (M:ι.Nodup) (C:ι.length=fo.length) (X:qdi ι st.os ι fo) (hik:fo.all (AObj.inK fo.length)=true):ObjsOk (xo [] ι g) w [] fo:=by
 have hrk:=qee [] ι g w;have I: ∀(b id j:Nat),g b= .obj id->ι[j]? =some id->xo [] ι g b= .obj j:=by
  intro b id j q Z;unfold xo;rw[q];simp only[qcx M Z]
 have l: ∀(b j:Nat),xo [] ι g b= .obj j-> ∃id,g b= .obj id∧ι[j]? =some id:=by
  intro b j h;unfold xo at h;cases q:g b with
  |out=>rw[q]at h;cases h
  |row n o=>rw[q]at h;cases o<;>cases h
  |uni t=>rw[q]at h;simp only at h;split at h<;>cases h
  |obj id=>
   rw[q]at h;simp only at h;split at h
   ·rename_i j' hp;cases h;exact⟨id,rfl,qfo hp⟩
   ·cases h
 refine⟨λj o Z hne=> ?_,λb b' j h h'=> ?_,λb j h=> ?_⟩
 ·obtain⟨id,c,G,R,z⟩:=qd2 X j o Z;cases o with
  |none=>exact(hne rfl).elim
  |map es' c'=>
   cases c with
   |map es c0=>
    obtain⟨rfl,rfl⟩:es=es'∧c0=c':=z;rcases hs.objs id _ R (by simp)with⟨b,q,hr⟩|⟨hv,_⟩
    ·exact .inl ⟨b,I b id j q G,MapIs.mono hr hrk rfl⟩
    ·cases hv
   | _=>exact z.elim
  |iter m since seen last=>cases c<;>exact z.elim
  |row u=>
   cases c with
   |none=>exact z.elim
   |map _ _=>exact z.elim
   |iter _ _ _ _=>exact z.elim
   |row cs=>
    rcases hs.objs id _ R (by simp)with⟨b,q,ca,e,hh,hl,hcc⟩|⟨hv,hno⟩;case inr=>
     have hc0:cs= []:=by simpa using hv
     subst hc0;have hf0:u= []:=by
      cases u with
      |nil=>rfl
      |cons f u=>exact(show qfe [] ((f::u).map (ASlot.ren1 ι))from z).elim
     subst hf0;refine .inr ⟨rfl,λb q=> ?_⟩;obtain⟨U,J,E⟩:=l b j q;rw[G]at E;cases E;exact hno b J
    have p:=jAx.1 hik _ (jAe Z);simp only[AObj.inK,jAx]at p;have key: ∀(cs u:List ASlot),qfe cs (u.map (ASlot.ren1 ι)) ->u.length<=cs.length∧ ∀(i:Nat) (f:ASlot),u[i]? =some f-> ∃s,cs[i]? =some s∧qy9 s (f.ren1 ι):=by
     intro cs u;induction u generalizing cs with
     |nil=>intro _;exact⟨jAi _,by simp⟩
     |cons f u ih=>
      intro h;cases cs with
      |nil=>exact h.elim
      |cons s cs=>
       obtain⟨J,E⟩:=h;obtain⟨k1,k2⟩:=ih cs E;refine⟨by simp;omega,λi f' O=> ?_⟩;cases i with
       |zero=>simp at O;subst O;exact⟨s,rfl,J⟩
       |succ i=>simpa using k2 i f' (by simpa using O)
    obtain⟨k1,k2⟩:=key cs u z;refine .inl ⟨b,I b id j q G,ca,e,hh,by omega,λi f O=> ?_⟩;obtain⟨s,hsi,F⟩:=k2 i f O;obtain⟨v,v1,v2,v3⟩:=hcc i s hsi;refine⟨v,v1,v2,?_⟩;cases f with
    |d x=>
     have hk:=p _ (jAe O);have:=(qvx (jk v3) F).down (hs:= []) M (k:=fo.length) (by omega) rfl hk;rwa [<- C,jAs]at this
    |bad=>trivial
    |own t' es' rows'=>
     cases s with
     |own t es rows=>
      obtain⟨rfl,he⟩:=F;have hk:=p _ (jAe O);have J:RV g w v (.sl es (D.renR ι rows')):=qbn v3.1 ⟨.inl rfl,he⟩;have E:=J.down (hs:= []) (y:= .sl es rows') M (k:=fo.length) (by omega) rfl (by simp only[D.inK];exact hk);rw[<- C,jAs]at E;exact⟨E,λh=>by cases h⟩
     | _=>exact F.elim
    | _=>cases s<;>exact F.elim
 ·obtain⟨id,J,E⟩:=l b j h;obtain⟨U,h3,h4⟩:=l b' j h';rw[E]at h4;cases h4;exact hs.inj b b' id J h3
 ·obtain⟨id,J,E⟩:=l b j h;have Y:j<fo.length:=by rw[<- C];exact(jAd.1 E).1
  refine⟨fo[j],jAa Y,λhn=> ?_⟩;obtain⟨U,c,G,R,z⟩:=qd2 X j _ (jAa Y);rw[hn]at z;cases c<;>exact z.elim
theorem RowsKept.trans {g'':Ghost} {w'':World} (h:RowsKept g w g' w') (k:RowsKept g' w' g'' w''):RowsKept g w g'' w'':=by
 intro b n o hg;obtain⟨n',o',h1,h2,h3⟩:=h b n o hg;obtain⟨n'',o'',k1,k2,k3⟩:=k b n' o' h1;exact⟨n'',o'',k1,by omega,λi u hi hu=>k3 i u (by omega) (h3 i u hi hu)⟩
theorem RowsKept.still (hw: ∀k,g k≠ .out->w'.heap[k]? =w.heap[k]?):RowsKept g w g w':=
 λb n o d=>⟨n,o,d,jAh _,λi u _ hu=>by rw[jw (hw b (by rw[d];simp))];exact hu⟩
theorem FrRV.still {fr:Fr} {tmps:Array Value} (h:FrRV g w fr tmps) (e: ∀k,g k≠ .out->w'.heap[k]? =w.heap[k]?):FrRV g w' fr tmps:=
 λk d hk=>(h k d hk).mono (RowsKept.still e) (λb id i=>⟨i,jBt (jf (e b (by rw[i];simp))).symm⟩)
theorem Marks.world {e:List Deferred} (h:Marks g0 w0 g w e) (hw: ∀d∈e,∀b,d.target= .collected b->w'.heap[b]? =w.heap[b]?):Marks g0 w0 g w' e:=
 ⟨λd i=>let⟨b,h1,h2,h3,h4⟩:=h.one d i;⟨b,h1,h2,h3,by rw[hw d i b h1];exact h4⟩,h.two⟩
theorem Turn.rows {st':St} (h:Turn k0 st st') (hs:SR N (Go.Abs.below st.nt) g w st a) (m:G g0 w0 g w) (h0: ∀b id,g0 b= .obj id->id<k0):
  ∃g',SR N (Go.Abs.below st'.nt) g' w st' a∧G g0 w0 g' w∧(∀b,g b= .out->g' b= .out)∧RowsKept g w g' w∧ ∀b id,id<k0->g b= .obj id->g' b= .obj id:=by
 let l:Ghost:=λb=>match g b with| .row n o=> .row n o| .obj id=>if id<k0 then .obj id else .uni 0| .out=> .out| .uni _=> .uni 0
 have x1: ∀b,g b= .out->l b= .out:=λb d=>by simp only[l,d]
 have C: ∀b n o,g b= .row n o->l b= .row n o:=λb n o d=>by simp only[l,d]
 have J: ∀b id,g b= .obj id->id<k0->l b= .obj id:=λb id d z=>by simp only[l,d,if_pos z]
 have y1: ∀b,l b= .out->g b= .out:=λb d=>by
  simp only[l]at d;cases e:g b with
  |out=>rfl
  |row n o=>rw[e]at d;cases d
  |uni t=>rw[e]at d;cases d
  |obj id=>rw[e]at d;simp only at d;split at d<;>cases d
 have I: ∀b n o,l b= .row n o->g b= .row n o:=λb n o d=>by
  simp only[l]at d;cases e:g b with
  |out=>rw[e]at d;cases d
  |row n' o'=>rw[e]at d;exact d
  |uni t=>rw[e]at d;cases d
  |obj id=>rw[e]at d;simp only at d;split at d<;>cases d
 have F: ∀b id,l b= .obj id->g b= .obj id∧id<k0:=λb id d=>by
  simp only[l]at d;cases e:g b with
  |out=>rw[e]at d;cases d
  |row n' o'=>rw[e]at d;cases d
  |uni t=>rw[e]at d;cases d
  |obj id'=>
   rw[e]at d;simp only at d;split at d
   ·rename_i z;cases d;exact⟨rfl,z⟩
   ·cases d
 have hX:G l w g w:=⟨rfl,rfl,rfl,jAh _,λb _ d=>⟨rfl,y1 b d⟩,λb n _ d=>⟨rfl,I b n _ d⟩,λb n t _ d=>⟨n,_,I b n _ d,jAh _,λ_ _ _ h=>h⟩,λb id _ d=>⟨(F b id d).1,jAh _⟩⟩;obtain⟨g',k1,v,M⟩:=h.sr hs hX (λb id d=>(F b id d).2);refine⟨g',k1,⟨m.os,m.tape,m.output,m.size,λb d e=> ?_,λb n d e=> ?_,λb n t d e=> ?_,λb id d e=> ?_⟩,M,λb n o e=>v.row (hs.dom.lt_row e) (C b n o e),λb id z d=>(v.obj b id (hs.dom.lt_obj d) (J b id d z)).1⟩
 ·obtain⟨p,q⟩:=m.out b d e;exact⟨p,M b q⟩
 ·obtain⟨p,q⟩:=m.rowN b n d e;exact⟨p,(v.rowN b n (jBw d m.size) (C b n _ q)).2⟩
 ·obtain⟨n',o',p,q,q3⟩:=m.rowS b n t d e;obtain⟨n'',o'',E,r2,r3⟩:=v.row (jBw d m.size) (C b n' o' p);exact⟨n'',o'',E,by omega,λi u hi hu=>r3 i u (by omega) (q3 i u hi hu)⟩
 ·obtain⟨p,q⟩:=m.obj b id d e;obtain⟨E,r2⟩:=v.obj b id (jBw d m.size) (J b id p (h0 b id e));exact⟨E,by omega⟩
theorem qau (w:World) (o:Obj) (k:Nat) (h:k<w.heap.size):(w.alloc o).heap[k]? =w.heap[k]? :=by
 show(w.heap.push o)[k]? =_;rw[Array.getElem?_push,if_neg (by omega)]
theorem qb5 (W:World) (l:Nat) (o:Obj):W.heap.size<=(W.putObj l o).heap.size:=jBt World.putObj_size.symm
theorem qnj {F:Fence} {P:Program} {f:FuncId} {args:Array Value} {w:World} {R:Ending->World->Prop} (h:CallsIn F 0 P f args w R):CallsIn F (0-1) P f args w R:=h
theorem qzm {f:Operand} {f':Opd} {ps:Array Tmp} {ac bc:Code} {R:Exit->Act->World->Prop} {gf:FuncId} {caps:List D} {ι:List Nat} {fo:List AObj} {U:List (List D)} {S:Nat->St} {O:Fr}
  (hs:SR N T g w st a) (hG:G g0 w0 g w) (hM:Marks g0 w0 g w a.defers) (h0: ∀b id,g0 b= .obj id->id<k0)
  (hf:qt f=some f') (h1:f'.ok st.fr=true) (h2:f'.get st.fr= .d (.func (.func gf) [] (caps.map (D.ren ι)))) (hseq:ASeq P gf caps fo U)
  (hin: ∀d∈caps,d.inK fo.length=true) (hnd:ι.Nodup) (hlen:ι.length=fo.length) (hob:qdi ι st.os ι fo) (hik:fo.all (AObj.inK fo.length)=true) (hge: ∀id∈ι,k0<=id)
  (hvl: ∀vs∈U,vs.length=ps.size∧D.noPtrL vs=true) (hps: ∀p∈ps.toList,p<N) (hfr:O.plain=true) (hSf: ∀k,(S k).fr=O) (hSn: ∀k id,id∈ι->wx (S k).os id=false)
  (hwk:Weak k0 st (S 0))
  (hround: ∀k vs,U[k]? =some vs-> ∀l M W1 a1,SR N (below (S k).nt) M W1 {S k with fr:=ji ps.toList vs O} a1->a1.defers= [] ->
   ac.wpIn (Fw (some l)) 0 P (Exit.then (λa2 W2=> ∃ga st2,SR N (below st2.nt) ga W2 st2 a2∧G M W1 ga W2∧
    ∀W2',SR N (below st2.nt) ga W2' st2 a2->bc.wpIn (Fw (some l)) 0 P (λe a3 W3=>e= .normal∧ ∃gb st3,SR N (below st3.nt) gb W3 st3 a3∧G ga W2' gb W3∧Turn k0 {st3 with fr:=O} (S (k+1))) a2 W2') (λ_ _ _=>False)) a1 W1)
  (hR: ∀g' w' a',SR N (below (S U.length).nt) g' w' (S U.length) a'->G g0 w0 g' w'->Marks g0 w0 g' w' a'.defers->R .normal a' w'):
  (Code.rangeFunc f ps ac bc).wpIn (Fw none) 0 P R a w:=by
 have hrf:=xe hs hf h1;rw[h2]at hrf;have hrv:=wg hrf;generalize hfv:a.eval f=fv at hrv;cases hrv with
 |func _ vf vc _ _ l1 l2 r1 r2=>
 have hvf:vf= []:=jAz (by simpa using l1);subst hvf;obtain⟨m,hsq⟩:=hseq;refine wpIn_rangeFunc λfn _=> ?_;let u:LoopState->Option Code->Loop:=λst pe=>{state:=st,pending:=pe,fn,tmps:=a.tmps,params:=ps,assign:=ac,body:=bc,defers:=w.heap.size}
 let W1:=(w.alloc (.deferred (some []))).alloc (.loop (u .ready none))
 let l:=w.heap.size+1
 have hL1:W1.heap[l]? =some (.loop (u .ready none)):=by
  have:=World.alloc_heap_new (w.alloc (.deferred (some []))) (.loop (u .ready none));rwa [World.size_alloc]at this
 have hK1:W1.heap[w.heap.size]? =some (.deferred (some [])):=by
  exact(qau _ _ _ (by simp)).trans (World.alloc_heap_new w _)
 have hold: ∀b,b<w.heap.size->W1.heap[b]? =w.heap[b]? :=λb m=>by
  exact(qau _ _ _ (by simp;omega)).trans (qau _ _ _ m)
 have hsz1:W1.heap.size=w.heap.size+2:=by simp[W1]
 have hst0: ∀k,g k≠ .out->W1.heap[k]? =w.heap[k]? :=λk hk=>hold k (by
  rcases jB9 k w.heap.size with h|h
  ·exact h
  ·exact(hk (hs.dom.1 k h)).elim)
 have hs1:SR N T g W1 st a:=hs.still hst0 (by omega);have hdomC:Dom (xo [] ι g) W1:=⟨λb m=>by unfold xo;rw[hs1.dom.1 b m],hs1.dom.2.ghost λb n h=>by unfold xo;rw[h]⟩;have hlb: ∀(i:Nat) (v:Value) (d:D),vc[i]? =some v->caps[i]? =some d->RV (xo [] ι g) W1 v d:=by
  intro i v d hv I;have h:=r2 i v (d.ren ι) hv (by rw[jAn,I];rfl);have:=(h.mono (RowsKept.still hst0) (λk id hk=>⟨hk,jBt (jf (hst0 k (by rw[hk];simp))).symm⟩)).down (hs:= []) hnd (k:=fo.length) (by omega) rfl (hin d (jAe I));rwa [<- hlen,jAs]at this
 have hobjs:=xch hs1 hnd hlen hob hik;have C: ∀b j,xo [] ι g b= .obj j-> ∃id,id∈ι∧g b= .obj id:=by
  intro b j h;unfold xo at h;cases m:g b with
  |out=>rw[m]at h;cases h
  |row n o=>rw[m]at h;cases o<;>cases h
  |uni t=>rw[m]at h;simp only at h;split at h<;>cases h
  |obj id=>
   rw[m]at h;simp only at h;split at h
   ·rename_i j' hp;cases h;exact⟨id,jAe (qfo hp),rfl⟩
   ·cases h
 have hrowC: ∀b n o,xo [] ι g b= .row n o-> ∃o',g b= .row n o':=by
  intro b n o h;unfold xo at h;cases m:g b with
  |out=>rw[m]at h;cases h
  |row n' o'=>rw[m]at h;cases o'<;>cases h<;>exact⟨_,rfl⟩
  |uni t=>rw[m]at h;simp only at h;split at h<;>cases h
  |obj id=>rw[m]at h;simp only at h;split at h<;>cases h
 have hgl: ∀b,w.heap.size<=b->g b= .out:=hs.dom.1;have htk: ∀b id,id∈ι->g b= .obj id->b<w.heap.size:=λb id _ m=>hs.dom.lt_obj m;let J:Nat->World->Prop:=λk W=> ∃M,SR N (below (S k).nt) M W (S k) a∧G g0 w0 M W∧Marks g0 w0 M W a.defers∧RowsKept g W1 M W∧W.heap[l]? =some (.loop (u .ready none))∧
  W.heap[w.heap.size]? =some (.deferred (some []))∧M l= .out∧M w.heap.size= .out∧ ∀b id,id∈ι->g b= .obj id->M b= .out
 have hnt: ∀b r,b<w0.heap.size->g0 b=r->(∀t,r≠ .uni t) -> ∀j,xo [] ι g b≠ .obj j:=by
  intro b r m hr hu j hj;obtain⟨id,E,z⟩:=C b j hj;cases r with
  |out=>have:=(hG.out b m hr).2;rw[z]at this;cases this
  |row n o=>obtain⟨n',o',q,_⟩:=hG.row m hr;rw[z]at q;cases q
  |uni t=>exact hu t rfl
  |obj id'=>
   have:=(hG.obj b id' m hr).1;rw[z]at this;cases this;have:=h0 b id hr;have:=hge id E;omega
 have hmk: ∀d∈a.defers,∀b,d.target= .collected b->b<w.heap.size∧g b= .out∧ ∀j,xo [] ι g b≠ .obj j:=by
  intro d I b m;obtain⟨b',q1,X,q3,q4⟩:=hM.one d I;rw[m]at q1;cases q1;refine⟨(jA5.1 q4).1,q3,λj hj=> ?_⟩;obtain⟨id,_,z⟩:=C b j hj;rw[q3]at z;cases z
 have hlC: ∀b,w.heap.size<=b-> ∀j,xo [] ι g b≠ .obj j:=by
  intro b m j hj;obtain⟨id,_,z⟩:=C b j hj;rw[hgl b m]at z;cases z
 have hw0l:w0.heap.size<=w.heap.size:=hG.size;have hJ0:J 0 W1:=by
  obtain⟨g1,k1,k2,k3,k4,k5,_⟩:=hwk.srD hs hG h0;have hst: ∀b,g1 b≠ .out->W1.heap[b]? =w.heap[b]? :=λb m=>hold b (by
   rcases jB9 b w.heap.size with h|h
   ·exact h
   ·exact(m (k1.dom.1 b h)).elim)
  refine⟨g1,k1.still hst (by omega),k2.beyond rfl rfl rfl (by omega) (λb r m _ _=>hold b (by omega)),(hM.turn k3).world (λd I b m=>hold b (hmk d I b m).1),((RowsKept.still (w:=W1) (w':=w) λk hk=>(hst0 k hk).symm).trans k5).trans (RowsKept.still hst),hL1,hK1,k1.dom.1 l (by simp[l]),k1.dom.1 _ (jAh _),λb id E m=> ?_⟩;rcases k4 b id m with h|h
  ·obtain⟨o,q1,X⟩:=k1.ids b id h;have:=hSn 0 id E;unfold wx at this;rw[q1]at this;cases o with
   |none=>exact(X rfl).elim
   | _=>simp at this
  ·exact h
 have hab: ∀k W W',J k W->W'.os=W.os->W'.tape=W.tape->W'.output=W.output->W'.heap.size=W.heap.size->(∀b,(∀id,xo [] ι g b≠ .obj id) ->W'.heap[b]? =W.heap[b]?) ->J k W':=by
  rintro k W W' ⟨M,j1,j2,j3,j4,j5,j6,j7,j8,j9⟩ q1 X q3 q4 q5;have hst: ∀b,M b≠ .out->W'.heap[b]? =W.heap[b]? :=λb m=>q5 b (λj hj=>by
   obtain⟨id,E,z⟩:=C b j hj;exact m (j9 b id E z))
  exact⟨M,j1.still hst (by omega),j2.beyond q1 X q3 (by omega) (λb r m hr hu=>q5 b (hnt b r m hr hu)),j3.world (λd I b m=>q5 b (hmk d I b m).2.2),j4.trans (RowsKept.still hst),
   by rw[q5 l (hlC l (by simp[l]))];exact j5,by rw[q5 _ (hlC _ (jAh _))];exact j6,j7,j8,j9⟩
 have hrd: ∀(k:Nat) (ds:List D) (vs:List Value) (W:World),U[k]? =some ds->J k W->vs.length=ds.length->(∀(i:Nat) (v:Value) (d:D),vs[i]? =some v->ds[i]? =some d->RV (xo [] ι g) W1 v d) ->
   q6k (Fw none) 0 P l vs.toArray W λe W'=>e= .returned (.bool true)∧J (k+1) W'∧ ∀b id,xo [] ι g b= .obj id->W'.heap[b]? =W.heap[b]? :=by
  rintro k ds vs W hk ⟨M,j1,j2,j3,j4,j5,j6,j7,j8,j9⟩ hvs hrv;obtain⟨hdl,hdn⟩:=hvl ds (jAe hk);have hy:=run_yield (P:=P) (args:=vs.toArray) j5 (by simp[u];omega);refine⟨fn,_,ac,bc,hy,roundIn_of_wpIn (F:=Fw none) trivial ?_⟩;have hfold:(ps.zip vs.toArray).foldl (λt (x:Nat×Value)=>t.setIfInBounds x.1 x.2) a.tmps=(ps.toList.zip vs).foldl (λt (x:Nat×Value)=>t.setIfInBounds x.1 x.2) a.tmps:=by
   rw[<- jFv,Array.toList_zip]
  have hrc:RowsKept (xo [] ι g) W1 M W:=by
   intro b n o m;obtain⟨o',z⟩:=hrowC b n o m;exact j4 b n o' z
  have hf0:FrRV M W O a.tmps:=by
   have:=xcg j1;rwa [hSf k]at this
  have hpl:=qeh ps.toList ds O hfr;have hsz:((ps.toList.zip vs).foldl (λt (x:Nat×Value)=>t.setIfInBounds x.1 x.2) a.tmps).size=N:=by rw[ql4];exact j1.size
  have hs1:SR N (below (S k).nt) M W {S k with fr:=ji ps.toList ds O} {tmps:=(ps.toList.zip vs).foldl (λt (x:Nat×Value)=>t.setIfInBounds x.1 x.2) a.tmps,defers:= []}:=
   j1.plain hpl hsz (qv6 ps.toList ds vs O a.tmps (by simpa using hdl) (by simp;omega) (λp hp=>by rw[j1.size];exact hps p hp) hf0
    (λi v d hv I=>(hrv i v d hv I).mono_noPtr hrc ((D.noPtrL_iff ds).1 hdn d (jAe I))))
  have hwp:=hround k ds hk l M W _ hs1 rfl;simp only[u];rw[hfold];refine wpIn_mono hwp ?_;intro e a2 W2 hq;cases e with
  |normal=>
   obtain⟨ga,st2,q1,X,q3⟩:=hq;have hlt:l<W.heap.size:=(jA5.1 j5).1;obtain⟨e1,e2⟩:=X.out l hlt j7;have hl2:W2.heap[l]? =some (.loop (u .ready none)):=by rw[e1];exact j5
   refine⟨_,run_beginRound hl2 rfl,?_⟩;have Y: ∀b,ga b≠ .out->(W2.putObj l (.loop {u .ready none with state:= .busy})).heap[b]? =W2.heap[b]? :=λb m=>World.putObj_heap_other (λh=>m (h▸e2));refine wpIn_mono (q3 _ (q1.still Y (qb5 _ _ _))) ?_;rintro e a3 W3 ⟨rfl,gb,st3,r1,r2,r3⟩;have hl2':(W2.putObj l (.loop {u .ready none with state:= .busy})).heap[l]? =some (.loop {u .ready none with state:= .busy}):=World.putObj_heap_same (jA5.1 hl2).1;obtain⟨f1,f2⟩:=r2.out l (jA5.1 hl2').1 e2;have hl3:W3.heap[l]? =some (.loop {u .ready none with state:= .busy}):=by rw[f1];exact hl2'
   refine⟨_,_,run_endRound none hl3,rfl,?_,λb id m=> ?_⟩
   ·
    have hG2:G g0 w0 ga W2:=j2.trans X;have hG2':G g0 w0 ga (W2.putObj l (.loop {u .ready none with state:= .busy})):=hG2.beyond rfl rfl rfl (qb5 _ _ _) (λb r m _ _=>World.putObj_heap_other (by simp only[l];omega));have hG3:G g0 w0 gb W3:=hG2'.trans r2;have hfr3:FrRV gb W3 O a.tmps:=(((hf0.mono j1.dom X).still Y).mono (q1.still Y (qb5 _ _ _)).dom r2);have hs3:SR N (below st3.nt) gb W3 {st3 with fr:=O} a:=r1.plain hfr j1.size hfr3;obtain⟨gz,z1,z2,z3,z4,_⟩:=r3.rows hs3 hG3 h0;have hlz:gz l= .out:=z3 l f2;have hst4: ∀b,gz b≠ .out->(W3.putObj l (.loop (u .ready none))).heap[b]? =W3.heap[b]? :=λb m=>World.putObj_heap_other (λh=>m (h▸hlz));have hM2:Marks g0 w0 ga W2 a.defers:=j3.step X;have hM2':Marks g0 w0 ga (W2.putObj l (.loop {u .ready none with state:= .busy})) a.defers:=hM2.world (λd I b m=>World.putObj_heap_other (by have:=(hmk d I b m).1;simp only[l];omega));have hM3:Marks g0 w0 gz W3 a.defers:=(hM2'.step r2).turn z3;obtain⟨d1,d2⟩:=X.out w.heap.size (jA5.1 j6).1 j8;have hD2:(W2.putObj l (.loop {u .ready none with state:= .busy})).heap[w.heap.size]? =some (.deferred (some [])):=by rw[World.putObj_heap_other (by simp only[l];omega),d1];exact j6
    obtain⟨d3,d4⟩:=r2.out w.heap.size (jA5.1 hD2).1 d2;refine⟨gz,z1.still hst4 (qb5 _ _ _),z2.beyond rfl rfl rfl (qb5 _ _ _) (λb r m _ _=>World.putObj_heap_other (by simp only[l];omega)),hM3.world (λd I b m=>World.putObj_heap_other (by have:=(hmk d I b m).1;simp only[l];omega)),
     ((((j4.trans (X.rowsKept j1.dom)).trans (RowsKept.still Y)).trans (r2.rowsKept (q1.still Y (qb5 _ _ _)).dom)).trans z4).trans (RowsKept.still hst4),World.putObj_heap_same (jA5.1 hl3).1,?_,hlz,z3 _ d4,λb id E m=> ?_⟩
    ·rw[World.putObj_heap_other (by simp only[l];omega),d3];exact hD2
    ·have hbl:=htk b id E m;have hb1:=j9 b id E m;have Z:b<W.heap.size:=by omega
     obtain⟨c1,c2⟩:=X.out b Z hb1;exact z3 b (r2.out b (jBw (jBw Z X.size) (qb5 _ _ _)) c2).2
   ·obtain⟨id',E,z⟩:=C b id m;have hbl:=htk b id' E z;have Z:b<W.heap.size:=by omega
    obtain⟨c1,c2⟩:=X.out b Z (j9 b id' E z);obtain⟨c3,c4⟩:=r2.out b (jBw (jBw Z X.size) (qb5 _ _ _)) c2;rw[World.putObj_heap_other (by simp only[l];omega),c3,World.putObj_heap_other (by simp only[l];omega),c1]
  | _=>exact hq.elim
 have hrun:=hsq (xo [] ι g) W1 vc l J hdomC (by simpa using l2) hlb hobjs hab hrd hJ0;refine⟨l,[{target:= .collected w.heap.size,args:= #[]}],W1,{target:= .fn (.func gf) vc.toArray,args:= #[.func (.yield l) #[] #[]]},W1,gf,#[.func (.yield l) #[] #[]]++vc.toArray,W1,run_enterLoop_outer _ _ _ _ _,?_,λ_ _=>trivial,?_,⟨λh=>Bool.noConfusion h,?_⟩⟩
 ·simp[resolve,hfv,Deferred.ofValue];rfl
 ·cases hfn:P.funcs[gf]?with
  |none=>rw[hfn]at m;simp at m
  |some fx=>
   rw[hfn]at m;simp only[Option.any_some,jAf]at m;obtain⟨hb1,hb2⟩:=m;have hname:fx.body.isNone=false:=by cases hbb:fx.body<;>simp[hbb]at hb1⊢
   have hng:(fx.name== "runtime.NumGoroutine")=false:=by simpa using hb2
   simp only[invoke,callFunc,Sem.run_bind,Sem.run_pure,Result.andThen_ok,run_program,hfn,hname,hng,jAw,if_false]
 ·refine qnj ?_;refine CallsIn.mono hrun ?_;rintro e W' ⟨⟨v,rfl⟩,M,j1,j2,j3,j4,j5,j6,j7,j8,j9⟩;refine⟨none,_,run_endLoop j5 (by simp[u]),?_⟩;generalize ({u .ready none with state:= .exhausted}:Loop)=lx;show R .normal _ (W'.putObj l (.loop lx));have hlo: ∀b,b<w.heap.size+1->(W'.putObj l (.loop lx)).heap[b]? =W'.heap[b]? :=λb m=>World.putObj_heap_other (by simp only[l];omega);have hst: ∀b,M b≠ .out->(W'.putObj l (.loop lx)).heap[b]? =W'.heap[b]? :=λb m=>World.putObj_heap_other (λh=>m (h▸j7));have j1':=j1.still hst (qb5 _ _ _);refine hR M _ _ ⟨j1'.dom,trivial,j1'.size,j1'.slots,j1'.objs,j1'.inj,j1'.ids,j1'.wf⟩ (j2.beyond rfl rfl rfl (qb5 _ _ _) (λb r m _ _=>hlo b (by omega))) ⟨λd I=> ?_,?_⟩
  ·rcases jAv.1 I with rfl|I
   ·exact⟨w.heap.size,rfl,hw0l,j8,(hlo _ (by omega)).trans j6⟩
   ·obtain⟨b,q1,X,q3,q4⟩:=j3.one d I;exact⟨b,q1,X,q3,(hlo b (by have:=(hmk d I b q1).1;omega)).trans q4⟩
  ·refine jB1.2 ⟨λd I h=> ?_,j3.two⟩;obtain⟨b,q1,_⟩:=j3.one d I;have:=(hmk d I b q1).1;rw[q1]at h;simp at h;omega
theorem qv7 {f:Operand} {f':Opd} {ps:Array Tmp} {ac bc:Code} {R:Exit->Act->World->Prop} {gf:FuncId} {ibx ib K:Nat} {Z:List Int} {I:List (List D)} {S:Nat->St} {C:Fr} {QE:St->Prop}
  (hs:SR N T g w st a) (hG:G g0 w0 g w) (hM:Marks g0 w0 g w a.defers) (h0: ∀b id,g0 b= .obj id->id<k0)
  (hf:qt f=some f') (h1:f'.ok st.fr=true) (h2:f'.get st.fr= .d (.func (.func gf) [] [.ptr ibx 0])) (hseq:xh4 P gf Z I)
  (hK:k0<=K) (hix:ibx<K) (hib:ib<K) (hSx: ∀k,(S k).os[ibx]? =some (.row [.d (.ptr ib 0)])) (hSb: ∀k,∃rest,(S k).os[ib]? =some (.row (Z.map (λx=> .d (.int .i64 x))++rest)))
  (hne:Z≠ [])
  (hvl: ∀vs∈I,vs.length=ps.size∧D.noPtrL vs=true) (hps: ∀p∈ps.toList,p<N) (hfr:C.plain=true) (hSf: ∀k,(S k).fr=C)
  (hwk:Weak K st (S 0))
  (hround: ∀k vs,I[k]? =some vs-> ∀l z W1 a1,SR N (below (S k).nt) z W1 {S k with fr:=ji ps.toList vs C} a1->a1.defers= [] ->
   ac.wpIn (Fw (some l)) 0 P (Exit.then (λa2 W2=> ∃ga st2,SR N (below st2.nt) ga W2 st2 a2∧G z W1 ga W2∧
    ∀W2',SR N (below st2.nt) ga W2' st2 a2->bc.wpIn (Fw (some l)) 0 P (λe a3 W3=> ∃gb O,SR N (below O.nt) gb W3 O a3∧G ga W2' gb W3∧
     ((e= .normal∧Turn K {O with fr:=C} (S (k+1)))∨(e= .ret∧ ∃q,Turn K {O with fr:=C} q∧q.fr=C∧QE q))) a2 W2') (λ_ _ _=>False)) a1 W1)
  (hR: ∀g' w' a',SR N (below (S I.length).nt) g' w' (S I.length) a'->G g0 w0 g' w'->Marks g0 w0 g' w' a'.defers->R .normal a' w')
  (hE: ∀q g' w' a',QE q->SR N (below q.nt) g' w' q a'->G g0 w0 g' w'->Marks g0 w0 g' w' a'.defers->R .ret a' w'):
  (Code.rangeFunc f ps ac bc).wpIn (Fw none) 0 P R a w:=by
 have h0': ∀b id,g0 b= .obj id->id<K:=λb id h=>jBw (h0 b id h) hK;have hrf:=xe hs hf h1;rw[h2]at hrf;have hrv:=wg hrf;generalize hfv:a.eval f=fv at hrv;cases hrv with
 |func _ vf vc _ _ l1 l2 r1 r2=>
 have hvf:vf= []:=jAz (by simpa using l1);subst hvf;obtain⟨vb,rfl⟩: ∃vb,vc= [vb]:=by
  match vc,l2 with
  | [v],_=>exact⟨v,rfl⟩
 have hvb:=r2 0 vb _ rfl rfl;cases hvb with
 |ptr bx _ _ hbx=>
 obtain⟨u,hsq⟩:=hseq;have hkx: ∀k,wx (S k).os ibx=true:=λk=>by unfold wx;rw[hSx k]
 have hkb: ∀k,wx (S k).os ib=true:=λk=>by obtain⟨r,h⟩:=hSb k;unfold wx;rw[h]
 obtain⟨gA,kA1,kA2,kA3,kA4,kA5,kA6⟩:=hwk.srD hs hG h0';have hgx:gA bx= .obj ibx:=kA6 bx ibx (hkx 0) hbx;obtain⟨bb,hgb⟩: ∃bb,gA bb= .obj ib:=by
  obtain⟨rest,h⟩:=hSb 0;obtain⟨bb,h,_⟩:=(kA1.objs ib _ h (by simp)).block (by
   cases Z with
   |nil=>exact(hne rfl).elim
   |cons x l=>simp[AObj.cells])
  exact⟨bb,h⟩
 refine wpIn_rangeFunc λfn _=> ?_;let m:LoopState->Option Code->Loop:=λst pe=>{state:=st,pending:=pe,fn,tmps:=a.tmps,params:=ps,assign:=ac,body:=bc,defers:=w.heap.size}
 let W1:=(w.alloc (.deferred (some []))).alloc (.loop (m .ready none))
 let l:=w.heap.size+1
 have hL1:W1.heap[l]? =some (.loop (m .ready none)):=by
  have:=World.alloc_heap_new (w.alloc (.deferred (some []))) (.loop (m .ready none));rwa [World.size_alloc]at this
 have hK1:W1.heap[w.heap.size]? =some (.deferred (some [])):=by
  exact(qau _ _ _ (by simp)).trans (World.alloc_heap_new w _)
 have hold: ∀b,b<w.heap.size->W1.heap[b]? =w.heap[b]? :=λb u=>by
  exact(qau _ _ _ (by simp;omega)).trans (qau _ _ _ u)
 have hsz1:W1.heap.size=w.heap.size+2:=by simp[W1]
 have hmk: ∀d∈a.defers,∀b,d.target= .collected b->b<w.heap.size:=by
  intro d M b u;obtain⟨b',U,q2,q3,q4⟩:=hM.one d M;rw[u]at U;cases U;exact(jA5.1 q4).1
 have hw0l:w0.heap.size<=w.heap.size:=hG.size;let J0:St->Option Code->LoopState->World->Prop:=λst' pe ls W=> ∃z,SR N (below st'.nt) z W st' a∧G g0 w0 z W∧Marks g0 w0 z W a.defers∧W.heap[l]? =some (.loop (m ls pe))∧
  W.heap[w.heap.size]? =some (.deferred (some []))∧z l= .out∧z w.heap.size= .out∧z bx= .obj ibx∧z bb= .obj ib
 let J:Nat->World->Prop:=λk W=>J0 (S k) none .ready W
 let E:World->Prop:=λW=> ∃q,QE q∧J0 q (some .ret) .done W
 have hJ0:J 0 W1:=by
  have hst: ∀b,gA b≠ .out->W1.heap[b]? =w.heap[b]? :=λb u=>hold b (by
   rcases jB9 b w.heap.size with h|h
   ·exact h
   ·exact(u (kA1.dom.1 b h)).elim)
  exact⟨gA,kA1.still hst (by omega),kA2.beyond rfl rfl rfl (by omega) (λb r u _ _=>hold b (by omega)),(hM.turn kA3).world (λd M b u=>hold b (hmk d M b u)),hL1,hK1,kA1.dom.1 l (by simp[l]),kA1.dom.1 _ (jAh _),hgx,hgb⟩
 have hsee: ∀k W,J k W->(∃(c:Array Value) (e:TypeId),W.heap[bx]? =some (.cells c e (0,0))∧c[0]? =some (.pointer (some ⟨bb,0,none⟩)))∧ ∃(c:Array Value) (e:TypeId),W.heap[bb]? =some (.cells c e (0,0))∧ ∀(i:Nat) (x:Int),Z[i]? =some x->c[i]? =some (Value.int .i64 x):=by
  rintro k W ⟨z,X,j2,j3,j4,j5,j6,j7,j8,j9⟩;constructor
  ·obtain⟨b,hb1,c,e,U,q2,q3⟩:=(X.objs ibx _ (hSx k) (by simp)).block (by simp[AObj.cells]);obtain rfl:=X.inj b bx ibx hb1 j8;obtain⟨v,v1,_,v3⟩:=q3 0 _ rfl;have v3:RV z W v (.ptr ib 0):=v3;cases v3 with
   |ptr b2 _ _ hb2=>
    obtain rfl:=X.inj b2 bb ib hb2 j9;exact⟨c,e,U,v1⟩
  ·obtain⟨rest,hS⟩:=hSb k;obtain⟨b,hb1,c,e,U,q2,q3⟩:=(X.objs ib _ hS (by simp)).block (by
    cases Z with
    |nil=>exact(hne rfl).elim
    |cons x l=>simp[AObj.cells])
   obtain rfl:=X.inj b bb ib hb1 j9;refine⟨c,e,U,λi x hx=> ?_⟩;have hil:i<Z.length:=(jAd.1 hx).1;obtain⟨v,v1,_,v3⟩:=q3 i (.d (.int .i64 x)) (by rw[jA3 (by simpa using hil),jAn,hx];rfl);have v3:RV z W v (.int .i64 x):=v3;rw[ky v3]at v1;exact v1
 have hrd: ∀(k:Nat) (ds:List D) (vs:List Value) (W:World),I[k]? =some ds->J k W->vs.length=ds.length->(∀(i:Nat) (v:Value) (d:D),vs[i]? =some v->ds[i]? =some d->RV (λ_=> .out) W v d) ->
   q6k (Fw none) 0 P l vs.toArray W λe W'=>(e= .returned (.bool true)∧J (k+1) W')∨(e= .returned (.bool false)∧E W'):=by
  rintro k ds vs W hk ⟨z,X,j2,j3,j5,j6,j7,j8,j9,j10⟩ hvs hrv;obtain⟨hdl,hdn⟩:=hvl ds (jAe hk);have hy:=run_yield (P:=P) (args:=vs.toArray) j5 (by simp[m];omega);refine⟨fn,_,ac,bc,hy,roundIn_of_wpIn (F:=Fw none) trivial ?_⟩;have hfold:(ps.zip vs.toArray).foldl (λt (x:Nat×Value)=>t.setIfInBounds x.1 x.2) a.tmps=(ps.toList.zip vs).foldl (λt (x:Nat×Value)=>t.setIfInBounds x.1 x.2) a.tmps:=by
   rw[<- jFv,Array.toList_zip]
  have hrc:RowsKept (λ_=> .out) W z W:=by
   intro b n o u;cases u
  have hf0:FrRV z W C a.tmps:=by
   have:=xcg X;rwa [hSf k]at this
  have hpl:=qeh ps.toList ds C hfr;have hsz:((ps.toList.zip vs).foldl (λt (x:Nat×Value)=>t.setIfInBounds x.1 x.2) a.tmps).size=N:=by rw[ql4];exact X.size
  have hs1:SR N (below (S k).nt) z W {S k with fr:=ji ps.toList ds C} {tmps:=(ps.toList.zip vs).foldl (λt (x:Nat×Value)=>t.setIfInBounds x.1 x.2) a.tmps,defers:= []}:=
   X.plain hpl hsz (qv6 ps.toList ds vs C a.tmps (by simpa using hdl) (by simp;omega) (λp hp=>by rw[X.size];exact hps p hp) hf0
    (λi v d hv M=>(hrv i v d hv M).mono_noPtr hrc ((D.noPtrL_iff ds).1 hdn d (jAe M))))
  have hwp:=hround k ds hk l z W _ hs1 rfl;simp only[m];rw[hfold];refine wpIn_mono hwp ?_;intro e a2 W2 hq;cases e with
  |normal=>
   obtain⟨ga,st2,U,q2,q3⟩:=hq;have hlt:l<W.heap.size:=(jA5.1 j5).1;obtain⟨e1,e2⟩:=q2.out l hlt j7;have hl2:W2.heap[l]? =some (.loop (m .ready none)):=by rw[e1];exact j5
   refine⟨_,run_beginRound hl2 rfl,?_⟩;have hst2: ∀b,ga b≠ .out->(W2.putObj l (.loop {m .ready none with state:= .busy})).heap[b]? =W2.heap[b]? :=λb u=>World.putObj_heap_other (λh=>u (h▸e2));refine wpIn_mono (q3 _ (U.still hst2 (qb5 _ _ _))) ?_;rintro e a3 W3 ⟨gb,O,r1,r2,r3⟩;have hl2':(W2.putObj l (.loop {m .ready none with state:= .busy})).heap[l]? =some (.loop {m .ready none with state:= .busy}):=World.putObj_heap_same (jA5.1 hl2).1;obtain⟨f1,f2⟩:=r2.out l (jA5.1 hl2').1 e2;have hl3:W3.heap[l]? =some (.loop {m .ready none with state:= .busy}):=by rw[f1];exact hl2'
   have hG2:G g0 w0 ga W2:=j2.trans q2;have hG2':G g0 w0 ga (W2.putObj l (.loop {m .ready none with state:= .busy})):=hG2.beyond rfl rfl rfl (qb5 _ _ _) (λb r u _ _=>World.putObj_heap_other (by simp only[l];omega));have hG3:G g0 w0 gb W3:=hG2'.trans r2;have hfr3:FrRV gb W3 C a.tmps:=(((hf0.mono X.dom q2).still hst2).mono (U.still hst2 (qb5 _ _ _)).dom r2);have hs3:SR N (below O.nt) gb W3 {O with fr:=C} a:=r1.plain hfr X.size hfr3;have hM2:Marks g0 w0 ga W2 a.defers:=j3.step q2;have hM2':Marks g0 w0 ga (W2.putObj l (.loop {m .ready none with state:= .busy})) a.defers:=hM2.world (λd M b u=>World.putObj_heap_other (by have:=hmk d M b u;simp only[l];omega));obtain⟨d1,d2⟩:=q2.out w.heap.size (jA5.1 j6).1 j8;have hD2:(W2.putObj l (.loop {m .ready none with state:= .busy})).heap[w.heap.size]? =some (.deferred (some [])):=by rw[World.putObj_heap_other (by simp only[l];omega),d1];exact j6
   obtain⟨d3,d4⟩:=r2.out w.heap.size (jA5.1 hD2).1 d2;have hx2:=(q2.obj bx ibx (X.dom.lt_obj j9) j9).1;have hb2:=(q2.obj bb ib (X.dom.lt_obj j10) j10).1;have hx3:=(r2.obj bx ibx (jBw (U.dom.lt_obj hx2) (qb5 _ _ _)) hx2).1;have hb3:=(r2.obj bb ib (jBw (U.dom.lt_obj hb2) (qb5 _ _ _)) hb2).1;have next: ∀(q:St) (pe:Option Code) (ls:LoopState),Turn K {O with fr:=C} q->J0 q pe ls (W3.putObj l (.loop (m ls pe))):=by
    intro q pe ls ht;obtain⟨gz,z1,z2,z3,z4,z5⟩:=ht.rows hs3 hG3 h0';have hlz:gz l= .out:=z3 l f2;have hst4: ∀b,gz b≠ .out->(W3.putObj l (.loop (m ls pe))).heap[b]? =W3.heap[b]? :=λb u=>World.putObj_heap_other (λh=>u (h▸hlz));have hM3:Marks g0 w0 gz W3 a.defers:=(hM2'.step r2).turn z3;refine⟨gz,z1.still hst4 (qb5 _ _ _),z2.beyond rfl rfl rfl (qb5 _ _ _) (λb r u _ _=>World.putObj_heap_other (by simp only[l];omega)),hM3.world (λd M b u=>World.putObj_heap_other (by have:=hmk d M b u;simp only[l];omega)),
     World.putObj_heap_same (jA5.1 hl3).1,?_,hlz,z3 _ d4,z5 bx ibx hix hx3,z5 bb ib hib hb3⟩
    rw[World.putObj_heap_other (by simp only[l];omega),d3];exact hD2
   rcases r3 with⟨rfl,ht⟩|⟨rfl,q,ht,hfE,hQ⟩
   ·exact⟨_,_,run_endRound none hl3,.inl ⟨rfl,next _ none .ready ht⟩⟩
   ·exact⟨_,_,run_endRound (some .ret) hl3,.inr ⟨rfl,q,hQ,next _ (some .ret) .done ht⟩⟩
  | _=>exact hq.elim
 have hrun:=hsq W1 bx bb l J E hsee hrd hJ0;refine⟨l,[{target:= .collected w.heap.size,args:= #[]}],W1,{target:= .fn (.func gf) #[.pointer (some ⟨bx,0,none⟩)],args:= #[.func (.yield l) #[] #[]]},W1,gf,#[.func (.yield l) #[] #[]]++ #[.pointer (some ⟨bx,0,none⟩)],W1,run_enterLoop_outer _ _ _ _ _,?_,λ_ _=>trivial,?_,⟨λh=>Bool.noConfusion h,?_⟩⟩
 ·simp[resolve,hfv,Deferred.ofValue];rfl
 ·cases hfn:P.funcs[gf]?with
  |none=>rw[hfn]at u;simp at u
  |some fx=>
   rw[hfn]at u;simp only[Option.any_some,jAf]at u;obtain⟨hb1,hb2⟩:=u;have hname:fx.body.isNone=false:=by cases hbb:fx.body<;>simp[hbb]at hb1⊢
   have hng:(fx.name== "runtime.NumGoroutine")=false:=by simpa using hb2
   simp only[invoke,callFunc,Sem.run_bind,Sem.run_pure,Result.andThen_ok,run_program,hfn,hname,hng,jAw,if_false]
 ·refine qnj ?_;refine CallsIn.mono hrun ?_;have out: ∀{st':St} {pe:Option Code} {ls:LoopState} {W':World},J0 st' pe ls W'->(m ls pe).state≠ .busy-> ∃w4,(Instr.endLoop l).run P W'= .ok pe w4∧
    ∃z,SR N (below st'.nt) z w4 st' {a with defers:= [{target:= .collected w.heap.size,args:= #[]}]++a.defers}∧G g0 w0 z w4∧Marks g0 w0 z w4 ([{target:= .collected w.heap.size,args:= #[]}]++a.defers):=by
   rintro st' pe ls W' ⟨z,X,j2,j3,j5,j6,j7,j8,j9,j10⟩ hbz;refine⟨_,run_endLoop j5 hbz,?_⟩;generalize ({m ls pe with state:= .exhausted}:Loop)=lx;have hlo: ∀b,b<w.heap.size+1->(W'.putObj l (.loop lx)).heap[b]? =W'.heap[b]? :=λb u=>World.putObj_heap_other (by simp only[l];omega);have hst: ∀b,z b≠ .out->(W'.putObj l (.loop lx)).heap[b]? =W'.heap[b]? :=λb u=>World.putObj_heap_other (λh=>u (h▸j7));have Y:=X.still hst (qb5 _ _ _);refine⟨z,⟨Y.dom,trivial,Y.size,Y.slots,Y.objs,Y.inj,Y.ids,Y.wf⟩,j2.beyond rfl rfl rfl (qb5 _ _ _) (λb r u _ _=>hlo b (by omega)),⟨λd M=> ?_,?_⟩⟩
   ·rcases jAv.1 M with rfl|M
    ·exact⟨w.heap.size,rfl,hw0l,j8,(hlo _ (by omega)).trans j6⟩
    ·obtain⟨b,U,q2,q3,q4⟩:=j3.one d M;exact⟨b,U,q2,q3,(hlo b (by have:=hmk d M b U;omega)).trans q4⟩
   ·refine jB1.2 ⟨λd M h=> ?_,j3.two⟩;obtain⟨b,U,_⟩:=j3.one d M;have:=hmk d M b U;rw[U]at h;simp at h;omega
  rintro e W' ⟨⟨v,rfl⟩,hj|⟨q,hQ,hj⟩⟩
  ·obtain⟨w4,e1,z,e2,e3,e4⟩:=out hj (by simp[m]);exact⟨none,w4,e1,hR z w4 _ e2 e3 e4⟩
  ·obtain⟨w4,e1,z,e2,e3,e4⟩:=out hj (by simp[m]);exact⟨some .ret,w4,e1,wpIn_ret (hE q z w4 _ hQ e2 e3 e4)⟩
end
def qiw (K:St->Prop) (Q:SExit->St->Prop):SExit->St->Prop
 | .normal,st=>K st
 | .exit id,st=>Q (.exit id) st
 | .ret,st=>Q .ret st
def qzn (id:Nat) (Q:SExit->St->Prop):SExit->St->Prop
 | .normal,st=>Q .normal st
 | .exit id',st=>if id'=id then Q .normal st else Q (.exit id') st
 | .ret,st=>Q .ret st
def rndQ (K:Nat) (e:Fr) (nx:St) (Q:SExit->St->Prop):SExit->St->Prop
 | .normal,st=>Turn K {st with fr:=e} nx
 | .exit _,_=>False
 | .ret,st=> ∃d,Turn K {st with fr:=e} d∧d.fr=e∧Q .ret d
def xmz (c:Opd) (st:St) (t:Bool):Prop:=c.ok st.fr=true∧c.get st.fr= .d (.bool t)
def AWp (P:Program):Nat->SCode->(SExit->St->Prop) ->St->Prop
 | _,.skip,Q,st=>Q .normal st
 | _,.region ops objs pairs,Q,st=>xb8 P ops objs pairs (Q .normal) st
 |k0,.seq a b,Q,st=>AWp P k0 a (qiw (AWp P k0 b Q) Q) st
 |k0,.cond c a b,Q,st=> ∃t,xmz c st t∧(t=true->AWp P k0 a Q st)∧(t=false->AWp P k0 b Q st)
 |k0,.block id a,Q,st=>AWp P k0 a (qzn id Q) st
 |k0,.loop a,Q,st=> ∃(α:Type) (S:α->St) (μ:α->Nat) (x0:α),Turn k0 st (S x0)∧
   ∀x,AWp P k0 a (qiw (λst'=> ∃y,Turn k0 st' (S y)∧μ y<μ x) Q) (S x)
 | _,.exit id,Q,st=>Q (.exit id) st
 | _,.ret,Q,st=>Q .ret st
 |k0,.pause a,Q,st=> ∃st',Turn k0 st st'∧AWp P k0 a Q st'
 |k0,.rangeFunc f ps a b,Q,st=>(∃(m:FuncId) (i:List D) (ι:List Nat) (fo:List AObj) (e:List (List D)) (S:Nat->St) (h:Fr),
   (f.ok st.fr=true∧f.get st.fr= .d (.func (.func m) [] (i.map (D.ren ι)))∧ASeq P m i fo e∧(∀d∈i,d.inK fo.length=true)∧ι.Nodup∧ι.length=fo.length∧qdi ι st.os ι fo∧fo.all (AObj.inK fo.length)=true∧
    (∀id∈ι,k0<=id)∧(∀vs∈e,vs.length=ps.length∧D.noPtrL vs=true)∧h.plain=true∧(∀k,(S k).fr=h)∧(∀k id,id∈ι->wx (S k).os id=false)∧Weak k0 st (S 0))∧
   (∀k vs,e[k]? =some vs->AWp P (S k).os.length a (qiw (λst2=>AWp P st2.os.length b (qiw (λo=>Turn k0 {o with fr:=h} (S (k+1))) (λ_ _=>False)) st2) (λ_ _=>False)) {S k with fr:=ji ps vs h})∧
   Q .normal (S e.length))∨
  ∃(m:FuncId) (ibx ib K:Nat) (l:List Int) (e:List (List D)) (S:Nat->St) (h:Fr),
   (f.ok st.fr=true∧f.get st.fr= .d (.func (.func m) [] [.ptr ibx 0])∧xh4 P m l e∧k0<=K∧ibx<K∧ib<K∧(∀k,(S k).os[ibx]? =some (.row [.d (.ptr ib 0)]))∧
    (∀k,∃rest,(S k).os[ib]? =some (.row (l.map (λx=> .d (.int .i64 x))++rest)))∧l≠ []∧(∀vs∈e,vs.length=ps.length∧D.noPtrL vs=true)∧h.plain=true∧(∀k,(S k).fr=h)∧Weak K st (S 0))∧
   (∀k vs,e[k]? =some vs->AWp P (S k).os.length a (qiw (λst2=>AWp P st2.os.length b (rndQ K h (S (k+1)) Q) st2) (λ_ _=>False)) {S k with fr:=ji ps vs h})∧
   Q .normal (S e.length)
def SExit.real:SExit->Exit
 | .normal=> .normal
 | .exit id=> .exit id
 | .ret=> .ret
theorem ARun.mono {P:Program}: ∀{ops:List SOper} {k:Nat} {tids:List (List Nat)} {K K':List (List Nat) ->St->Prop} {st:St},(∀t s,K t s->K' t s) ->ARun P ops k tids K st->ARun P ops k tids K' st
 | [],k,tids,K,K',st,h,hr=>h _ _ hr
 |o::ops,k,tids,K,K',st,h,hr=>by
  simp only[ARun]at hr⊢;cases hg:gv st.fr o.guard with
  |none=>rw[hg]at hr;exact hr.elim
  |some g=>
   rw[hg]at hr;simp only at hr⊢;cases hop:o.op with
   |call f args=>
    rw[hop]at hr;obtain⟨n,as,fa,r,fo,fo',ι,qb,l,i,d,m⟩:=hr;exact⟨n,as,fa,r,fo,fo',ι,qb,l,i,d,m.mono h⟩
   |eqnilS neg x=>
    rw[hop]at hr;obtain⟨l,i,es,rows,d,m⟩:=hr;exact⟨l,i,es,rows,d,λb hb=>(m b hb).mono h⟩
   |nextM x=>
    rw[hop]at hr;obtain⟨l,i,p,d,m⟩:=hr;refine⟨l,i,p,d,?_⟩;rcases m with⟨since,seen,last,q,u⟩|⟨mid,since,seen,last,es,clock,q,u,r7⟩
    ·exact .inl ⟨since,seen,last,q,u.mono h⟩
    ·exact .inr ⟨mid,since,seen,last,es,clock,q,λhl=>(u hl).mono h,λe he=>(r7 e he).mono h⟩
   |appendR back es bytes s x=>
    rw[hop]at hr;obtain⟨l,i⟩:=hr;refine⟨l,?_⟩;rcases i with⟨d,m⟩|⟨o1,o2,id,n,r,k1,k2,k3,k4,k5⟩
    ·exact .inl ⟨d,m.mono h⟩
    ·exact .inr ⟨o1,o2,id,n,r,k1,k2,k3,k4.mono h,k5.mono h⟩
   |callT f args=>
    rw[hop]at hr;obtain⟨l,n,as,fa,r,fo,fo',ι,H,R,i,d⟩:=hr;exact⟨l,n,as,fa,r,fo,fo',ι,H,R,i,d.mono h⟩
   |entryM x=>
    rw[hop]at hr;obtain⟨l,i,p,mid,since,seen,clock,es,e,d,m,q⟩:=hr;exact⟨l,i,p,mid,since,seen,clock,es,e,d,m,q.mono h⟩
   | _=>
    rw[hop]at hr;exact⟨hr.1,hr.2.mono h⟩
theorem qfq {K K':St->Prop} {Q Q':SExit->St->Prop} (hK: ∀s,K s->K' s) (d: ∀e s,Q e s->Q' e s): ∀e s,qiw K Q e s->qiw K' Q' e s
 | .normal,s,h=>hK s h
 | .exit _,s,h=>d _ s h
 | .ret,s,h=>d _ s h
theorem AWp.mono {P:Program}: ∀{k0:Nat} (c:SCode) {Q Q':SExit->St->Prop} {st:St},(∀e s,Q e s->Q' e s) ->AWp P k0 c Q st->AWp P k0 c Q' st
 | _,.skip,Q,Q',st,h,hr=>h _ _ hr
 | _,.region ops objs pairs,Q,Q',st,h,hr=>ARun.mono (λ_ _ F=>⟨F.1,h _ _ F.2⟩) hr
 | _,.seq a b,Q,Q',st,h,hr=>AWp.mono a (qfq (λs hs=>AWp.mono b h hs) h) hr
 | _,.cond c a b,Q,Q',st,h,hr=>by
  obtain⟨t,l,i,p⟩:=hr;exact⟨t,l,λC=>AWp.mono a h (i C),λC=>AWp.mono b h (p C)⟩
 | _,.block id a,Q,Q',st,h,hr=>AWp.mono a (λe s hs=>by
   cases e with
   |normal=>exact h _ _ hs
   |exit id'=>simp only[qzn]at hs⊢;grind
   |ret=>exact h _ _ hs) hr
 | _,.loop a,Q,Q',st,h,hr=>by
  obtain⟨α,S,μ,x0,l,i⟩:=hr;exact⟨α,S,μ,x0,l,λx=>AWp.mono a (qfq (λ_ hs=>hs) h) (i x)⟩
 | _,.exit id,Q,Q',st,h,hr=>h _ _ hr
 | _,.ret,Q,Q',st,h,hr=>h _ _ hr
 | _,.pause a,Q,Q',st,h,hr=>by
  obtain⟨st',l,i⟩:=hr;exact⟨st',l,AWp.mono a h i⟩
 | _,.rangeFunc f ps a b,Q,Q',st,h,hr=>by
  rcases hr with⟨E,q,ι,fo,d,S,o,l,i,p⟩|⟨E,z,ib,K,v,d,S,o,l,i,p⟩
  ·exact .inl ⟨E,q,ι,fo,d,S,o,l,i,h _ _ p⟩
  ·refine .inr ⟨E,z,ib,K,v,d,S,o,l,λk vs hk=>AWp.mono a (qfq (λs hs=>AWp.mono b (λe s' m=> ?_) hs) (λ_ _ h=>h)) (i k vs hk),h _ _ p⟩;cases e with
   |normal=>exact m
   |exit id=>exact m
   |ret=>
    obtain⟨u,q1,q2,q3⟩:=m;exact⟨u,q1,q2,h _ _ q3⟩
section
variable {P:Program} {mu:List Nat} {N k0:Nat} {g g0:Ghost} {w w0:World} {st:St} {a:Act}
theorem xci {c:Operand} {c':Opd} {t:Bool} {T:Nat->Prop} (hs:SR N T g w st a) (hc:qt c=some c') (h:xmz c' st t):a.eval c= .bool t:=by
 have:=xe hs hc h.1;rw[h.2]at this;exact y8 (wg this)
theorem qcl {F:Fence} {u:Nat} {c:Code} {Q:Exit->Act->World->Prop} (J:Nat->Act->World->Prop) {n0:Nat} (h0:J n0 a w)
  (i: ∀n a w,J n a w->c.wpIn F u P (Exit.then (λa' w'=> ∃m,m<n∧J m a' w') Q) a w):(Code.loop c).wpIn F u P Q a w:=by
 intro b k cs q t o;have key: ∀n a w,J n a w-> ∃e a' w',Q e a' w'∧ArrivesIn (Machine.fenced P F) P (lone (b.atR a (.code c:: .inLoop c::k)) cs w) b k cs e a' w':=by
  intro n;induction n using Nat.strongRecOn with
  | _ n ih=>
   intro a w hI;obtain⟨e,a₁,w₁,h,d⟩:=i n a w hI b (.inLoop c::k) cs q t o;cases e with
   |normal=>
    obtain⟨m,p,hI₁⟩:=h;obtain⟨e₂,a₂,w₂,hq₂,harr₂⟩:=ih m p a₁ w₁ hI₁;exact⟨e₂,a₂,w₂,hq₂,.of_steps (StepsIn.trans d (.one (fenced_calm t o rfl) stepR_inLoop)) harr₂⟩
   |exit id=>exact⟨_,a₁,w₁,h,.pass (x:= .inLoop c) rfl (λ_ _=> .inl (by simp)) d⟩
   |goto l=>exact⟨_,a₁,w₁,h,.pass (x:= .inLoop c) rfl (λ_ _=> .inl (by simp)) d⟩
   |ret=>exact⟨_,a₁,w₁,h,.pass (x:= .inLoop c) rfl (λ_ _=> .inl (by simp)) d⟩
   |panic ch=>exact⟨_,a₁,w₁,h,.pass (x:= .inLoop c) rfl (λ_ _=> .inl (by simp)) d⟩
   |outgrown=>exact⟨_,a₁,w₁,h,.pass (x:= .inLoop c) rfl (λ_ _=> .inl (by simp)) d⟩
 obtain⟨e,a',w',h,d⟩:=key n0 a w h0;exact⟨e,a',w',h,.of_steps (.one (fenced_calm t o rfl) stepR_loop) d⟩
def SCode.core:SCode->SCode
 | .pause a=>a.core
 |c=>c
theorem qto: ∀c:SCode,c.core.erase=c.erase
 | .pause a=>qto a
 | .skip=>rfl
 | .region .. =>rfl
 | .seq .. =>rfl
 | .cond .. =>rfl
 | .block .. =>rfl
 | .loop .. =>rfl
 | .exit .. =>rfl
 | .ret=>rfl
 | .rangeFunc .. =>rfl
theorem q6l: ∀(c a:SCode),c.core≠ .pause a
 | .pause b,a=>q6l b a
 | .skip,_=>by simp[SCode.core]
 | .region ..,_=>by simp[SCode.core]
 | .seq ..,_=>by simp[SCode.core]
 | .cond ..,_=>by simp[SCode.core]
 | .block ..,_=>by simp[SCode.core]
 | .loop ..,_=>by simp[SCode.core]
 | .exit ..,_=>by simp[SCode.core]
 | .ret,_=>by simp[SCode.core]
 | .rangeFunc ..,_=>by simp[SCode.core]
theorem AWp.core {P:Program} {k0:Nat} {Q:SExit->St->Prop}: ∀{c:SCode} {st:St},AWp P k0 c Q st-> ∃st',Turn k0 st st'∧AWp P k0 c.core Q st'
 | .pause a,st,h=>by
  obtain⟨st1,h1,h2⟩:=h;obtain⟨st2,h3,h4⟩:=AWp.core (c:=a) h2;exact⟨st2,h1.trans h3,h4⟩
 | .skip,st,h=>⟨st,.refl st,h⟩
 | .region ..,st,h=>⟨st,.refl st,h⟩
 | .seq ..,st,h=>⟨st,.refl st,h⟩
 | .cond ..,st,h=>⟨st,.refl st,h⟩
 | .block ..,st,h=>⟨st,.refl st,h⟩
 | .loop ..,st,h=>⟨st,.refl st,h⟩
 | .exit ..,st,h=>⟨st,.refl st,h⟩
 | .ret,st,h=>⟨st,.refl st,h⟩
 | .rangeFunc ..,st,h=>⟨st,.refl st,h⟩
def MarksR:Option Nat->Ghost->World->Ghost->World->List Deferred->Prop
 |none,g0,w0,g,w,ds=>Marks g0 w0 g w ds
 |some _,_,_,_,_,ds=>ds= []
theorem MarksR.step {ro:Option Nat} {g g' g0:Ghost} {w w' w0:World} {d:List Deferred} (h:MarksR ro g0 w0 g w d) (hG:G g w g' w'):MarksR ro g0 w0 g' w' d:=by
 cases ro with
 |none=>exact Marks.step h hG
 |some l=>exact h
theorem MarksR.turn {ro:Option Nat} {g g' g0:Ghost} {w w0:World} {d:List Deferred} (h:MarksR ro g0 w0 g w d) (ho: ∀b,g b= .out->g' b= .out):MarksR ro g0 w0 g' w d:=by
 cases ro with
 |none=>exact Marks.turn h ho
 |some l=>exact h
theorem q89 {news:List (FuncId×Nat)} (hm:P.follows .mixedOrders=true): ∀(c:Code) (ro:Option Nat) (k0:Nat) (g0:Ghost) (w0:World) (sc:SCode) (Q:SExit->St->Prop) (R:Exit->Act->World->Prop) (st:St) (g:Ghost) (w:World) (a:Act),
  (ro=none∨wl c=true) ->(∀b id,g0 b= .obj id->id<k0) ->zn P mu N news c=some sc.erase->AWp P k0 sc Q st->SR N (below st.nt) g w st a->G g0 w0 g w->MarksR ro g0 w0 g w a.defers->
  (∀e st' g' w' a',Q e st'->SR N (below st'.nt) g' w' st' a'->G g0 w0 g' w'->MarksR ro g0 w0 g' w' a'.defers->R e.real a' w') ->c.wpIn (Fw ro) 0 P R a w:=by
 intro c;have pre: ∀{ro:Option Nat} {k0:Nat} {g0:Ghost} {w0:World},(∀b id,g0 b= .obj id->id<k0) -> ∀{sc:SCode} {Q:SExit->St->Prop} {st:St} {g:Ghost} {w:World} {a:Act},AWp P k0 sc Q st->SR N (below st.nt) g w st a->G g0 w0 g w->MarksR ro g0 w0 g w a.defers->
   ∃p st' g',p.erase=sc.erase∧(∀x,p≠ .pause x)∧AWp P k0 p Q st'∧SR N (below st'.nt) g' w st' a∧G g0 w0 g' w∧MarksR ro g0 w0 g' w a.defers:=by
  intro ro k0 g0 w0 I sc Q st g w a h hs v u;obtain⟨st',h1,h2⟩:=h.core;obtain⟨g',h3,h4,h5⟩:=h1.sr hs v I;exact⟨sc.core,st',g',qto sc,q6l sc,h2,h3,h4,u.turn h5⟩
 induction c with
 |skip=>
  intro ro k0 g0 w0 sc Q R st g w a J I hc h hs v u M;simp only[zn,Option.some.injEq]at hc;obtain⟨p,st',g',q,F,h,hs,v,u⟩:=pre I h hs v u;rw[<- hc]at q;cases p<;>simp only[SCode.erase,reduceCtorEq]at q<;>first|exact wpIn_skip (M .normal st' g' w a h hs v u)|grind
 |region id ops draw=>
  intro ro k0 g0 w0 sc Q R st g w a J I hc h hs v u M;simp only[zn,Option.map_eq_some_iff]at hc;obtain⟨⟨sops,objs,pairs⟩,h1,hc⟩:=hc;obtain⟨p,st',g',q,F,h,hs,v,u⟩:=pre I h hs v u;rw[<- hc]at q;cases p with
  |region a1 a2 a3=>
   simp only[SCode.erase,SCode.region.injEq]at q;obtain⟨rfl,rfl,rfl⟩:=q;exact xcc hm h1 hs h (λst' g' w' a' hdf hK d m=>M .normal st' g' w' a' hK m (v.trans d) (by rw[hdf];exact u.step d))
  |pause x=>grind
  | _=>grind[SCode.erase]
 |seq x y ix iy=>
  intro ro k0 g0 w0 sc Q R st g w a J I hc h hs v u M;simp only[zn]at hc;split at hc
  ·rename_i x' y' hx hy;simp only[Option.some.injEq]at hc;obtain⟨p,st,g,q,F,h,hs,v,u⟩:=pre I h hs v u;rw[<- hc]at q;cases p<;>simp only[SCode.erase,reduceCtorEq]at q<;>first|exact(F _ rfl).elim|skip
   rename_i X Y;simp only[SCode.seq.injEq]at q;obtain⟨rfl,rfl⟩:=q;have hfx:(ro=none∨wl x=true)∧(ro=none∨wl y=true):=by
    rcases J with h|h
    ·grind
    ·simp only[wl,Bool.and_eq_true]at h;grind
   refine wpIn_seq (ix ro k0 g0 w0 X _ _ st g w a hfx.1 I hx h hs v u (λe st' g' w' a' O m d E=> ?_));cases e with
   |normal=>exact iy ro k0 g0 w0 Y Q R st' g' w' a' hfx.2 I hy O m d E M
   |exit id=>exact M (.exit id) st' g' w' a' O m d E
   |ret=>exact M .ret st' g' w' a' O m d E
  grind
 |cond c x y ix iy=>
  intro ro k0 g0 w0 sc Q R st g w a J I hc h hs v u M;simp only[zn]at hc;split at hc
  ·rename_i c' x' y' hcc hx hy;simp only[Option.some.injEq]at hc;obtain⟨p,st,g,q,F,h,hs,v,u⟩:=pre I h hs v u;rw[<- hc]at q;cases p<;>simp only[SCode.erase,reduceCtorEq]at q<;>first|exact(F _ rfl).elim|skip
   rename_i C X Y;simp only[SCode.cond.injEq]at q;obtain⟨rfl,rfl,rfl⟩:=q;obtain⟨t,h1,h2,h3⟩:=h;have hfx:(ro=none∨wl x=true)∧(ro=none∨wl y=true):=by
    rcases J with h|h
    ·grind
    ·simp only[wl,Bool.and_eq_true]at h;grind
   refine wpIn_cond_split (xci hs hcc h1) (λht=>ix ro k0 g0 w0 X Q R st g w a hfx.1 I hx (h2 ht) hs v u M) (λht=>iy ro k0 g0 w0 Y Q R st g w a hfx.2 I hy (h3 ht) hs v u M)
  grind
 |block id x ix=>
  intro ro k0 g0 w0 sc Q R st g w a J I hc h hs v u M;simp only[zn,Option.map_eq_some_iff]at hc;obtain⟨x',hx,hc⟩:=hc;obtain⟨p,st,g,q,F,h,hs,v,u⟩:=pre I h hs v u;rw[<- hc]at q;cases p<;>simp only[SCode.erase,reduceCtorEq]at q<;>first|exact(F _ rfl).elim|skip
  rename_i i X;simp only[SCode.block.injEq]at q;obtain⟨rfl,rfl⟩:=q;refine wpIn_block (ix ro k0 g0 w0 X _ _ st g w a J I hx h hs v u (λe st' g' w' a' O m d E=> ?_));cases e with
  |normal=>exact M .normal st' g' w' a' O m d E
  |exit id'=>
   simp only[qzn]at O;simp only[SExit.real,Exit.inBlock];split
   ·rename_i hi;rw[if_pos hi]at O;exact M .normal st' g' w' a' O m d E
   ·rename_i hi;rw[if_neg hi]at O;exact M (.exit id') st' g' w' a' O m d E
  |ret=>exact M .ret st' g' w' a' O m d E
 |loop x ix=>
  intro ro k0 g0 w0 sc Q R st g w a J I hc h hs v u M;simp only[zn,Option.map_eq_some_iff]at hc;obtain⟨x',hx,hc⟩:=hc;obtain⟨p,st,g,q,F,h,hs,v,u⟩:=pre I h hs v u;rw[<- hc]at q;cases p<;>simp only[SCode.erase,reduceCtorEq]at q<;>first|exact(F _ rfl).elim|skip
  rename_i X;simp only[SCode.loop.injEq]at q;subst q;obtain⟨α,S,μ,x0,h1,h2⟩:=h;obtain⟨g',m,d,ho'⟩:=h1.sr hs v I;refine qcl (λn a w=> ∃y g,μ y=n∧SR N (below (S y).nt) g w (S y) a∧G g0 w0 g w∧MarksR ro g0 w0 g w a.defers) (n0:=μ x0) ⟨x0,g',rfl,m,d,u.turn ho'⟩ (λn a w=> ?_);rintro⟨y,gy,rfl,hsy,hGy,hMy⟩;refine ix ro k0 g0 w0 X _ _ (S y) gy w a J I hx (h2 y) hsy hGy hMy (λe st' g' w' a' O m d E=> ?_);cases e with
  |normal=>
   obtain⟨z,hz,hlt⟩:=O;obtain⟨g'',hs'',hG'',ho''⟩:=hz.sr m d I;exact⟨μ z,hlt,z,g'',rfl,hs'',hG'',E.turn ho''⟩
  |exit id=>exact M (.exit id) st' g' w' a' O m d E
  |ret=>exact M .ret st' g' w' a' O m d E
 |exit id=>
  intro ro k0 g0 w0 sc Q R st g w a J I hc h hs v u M;simp only[zn,Option.some.injEq]at hc;obtain⟨p,st,g,q,F,h,hs,v,u⟩:=pre I h hs v u;rw[<- hc]at q;cases p<;>simp only[SCode.erase,reduceCtorEq]at q<;>first|exact(F _ rfl).elim|skip
  simp only[SCode.exit.injEq]at q;subst q;exact wpIn_exit (M (.exit _) st g w a h hs v u)
 |ret=>
  intro ro k0 g0 w0 sc Q R st g w a J I hc h hs v u M;simp only[zn,Option.some.injEq]at hc;obtain⟨p,st,g,q,F,h,hs,v,u⟩:=pre I h hs v u;rw[<- hc]at q;cases p<;>simp only[SCode.erase,reduceCtorEq]at q<;>first|exact(F _ rfl).elim|skip
  exact wpIn_ret (M .ret st g w a h hs v u)
 |rangeFunc f ps x y ix iy=>
  intro ro k0 g0 w0 sc Q R st g w a J I hc h hs v u M;have hro:ro=none:=J.resolve_right (by simp[wl]);subst hro;simp only[zn]at hc;split at hc
  ·rename_i f' x' y' hff hx hy;split at hc
   ·rename_i hcond;simp only[Bool.and_eq_true,List.all_eq_true,decide_eq_true_eq]at hcond;obtain⟨⟨hflx,hfly⟩,hps⟩:=hcond;simp only[Option.some.injEq]at hc;obtain⟨p,st,g,q,F,h,hs,v,u⟩:=pre I h hs v u;rw[<- hc]at q;cases p<;>simp only[SCode.erase,reduceCtorEq]at q<;>first|grind|skip
    rename_i F' ps' X Y;simp only[SCode.rangeFunc.injEq]at q;obtain⟨rfl,rfl,rfl,rfl⟩:=q;have hids: ∀{st:St} {g:Ghost} {w:World} {a:Act} {T:Nat->Prop},SR N T g w st a-> ∀b id,g b= .obj id->id<st.os.length:=λhs b id hb=>by
     obtain⟨o,ho,_⟩:=hs.ids b id hb;grind
    rcases h with h|⟨gf,ibx,ib,K,ins,vals,S,fr0,⟨h1,h2,h3,h4,h5,h6,h7,h8,h9,h10,h11,h12,h13⟩,h15,h16⟩;rotate_left
    ·refine qv7 (QE:=λs=>Q .ret s) hs v u I hff h1 h2 h3 h4 h5 h6 h7 h8 h9 (λvs hv=>by grind) hps h11 h12 h13 ?_ (λg' w' a' m d E=>M .normal _ g' w' a' h16 m d E) (λstE g' w' a' O m d E=>M .ret _ g' w' a' O m d E);intro k vs hk l gk W1 a1 hs1 hd1;refine ix (some l) (S k).os.length gk W1 X _ _ _ gk W1 a1 (.inr hflx) (hids (st:={S k with fr:=ji ps.toList vs fr0}) hs1) hx (h15 k vs hk) hs1 (.refl gk W1) hd1 (λe st2 ga W2 a2 O hs2 hG2 hM2=> ?_);cases e with
     |normal=>
      refine⟨ga,st2,hs2,hG2,λW2' U=> ?_⟩;refine iy (some l) st2.os.length ga W2' Y _ _ _ ga W2' a2 (.inr hfly) (hids U) hy O U (.refl ga W2') hM2 (λe st3 gb W3 a3 Z hs3 hG3 hM3=> ?_);cases e with
      |normal=>exact⟨gb,st3,hs3,hG3,.inl ⟨rfl,Z⟩⟩
      |exit id=>exact Z.elim
      |ret=>exact⟨gb,st3,hs3,hG3,.inr ⟨rfl,Z⟩⟩
     |exit id=>exact O.elim
     |ret=>exact O.elim
    obtain⟨gf,caps,ι,fo,vals,S,fr0,⟨h1,h2,h3,h4,h5,h6,h7,h8,h9,h10,h11,h12,h13,h14⟩,h15,h16⟩:=h;refine qzm hs v u I hff h1 h2 h3 h4 h5 h6 h7 h8 h9 (λvs hv=>by grind) hps h11 h12 h13 h14 ?_ (λg' w' a' m d E=>M .normal _ g' w' a' h16 m d E);intro k vs hk l gk W1 a1 hs1 hd1;refine ix (some l) (S k).os.length gk W1 X _ _ _ gk W1 a1 (.inr hflx) (hids (st:={S k with fr:=ji ps.toList vs fr0}) hs1) hx (h15 k vs hk) hs1 (.refl gk W1) hd1 (λe st2 ga W2 a2 O hs2 hG2 hM2=> ?_);cases e with
    |normal=>
     refine⟨ga,st2,hs2,hG2,λW2' U=> ?_⟩;refine iy (some l) st2.os.length ga W2' Y _ _ _ ga W2' a2 (.inr hfly) (hids U) hy O U (.refl ga W2') hM2 (λe st3 gb W3 a3 Z hs3 hG3 hM3=> ?_);cases e with
     |normal=>exact⟨rfl,gb,st3,hs3,hG3,Z⟩
     |exit id=>exact Z.elim
     |ret=>exact Z.elim
    |exit id=>exact O.elim
    |ret=>exact O.elim
   grind
  grind
 | _=>
  grind[zn]
theorem qzo {ro:Option Nat} {news:List (FuncId×Nat)} (hm:P.follows .mixedOrders=true) (h0: ∀b id,g0 b= .obj id->id<k0) (d:ro=none) (c:Code) (sc:SCode) (Q:SExit->St->Prop) (R:Exit->Act->World->Prop) (st:St) (g:Ghost) (w:World) (a:Act)
  (h1:zn P mu N news c=some sc.erase) (h2:AWp P k0 sc Q st) (h3:SR N (below st.nt) g w st a) (h4:G g0 w0 g w) (h5:Marks g0 w0 g w a.defers)
  (h6: ∀e st' g' w' a',Q e st'->SR N (below st'.nt) g' w' st' a'->G g0 w0 g' w'->Marks g0 w0 g' w' a'.defers->R e.real a' w'):c.wpIn (Fw ro) 0 P R a w:=by
 subst d;exact q89 hm c none k0 g0 w0 sc Q R st g w a (.inl rfl) h0 h1 h2 h3 h4 h5 h6
end
end Go.Abs
