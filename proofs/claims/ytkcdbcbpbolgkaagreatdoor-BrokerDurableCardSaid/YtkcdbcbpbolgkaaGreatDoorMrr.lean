/- Texts Fa, Fb. -/
import Derived.Test.YtkcdbcbpbolgkaaGreatDoorMrq
import Derived.Shelf.Spec.SlicesInsertGrow
set_option linter.unusedSimpArgs false
set_option linter.unusedVariables false
set_option linter.defProp false
set_option maxRecDepth 100000
noncomputable section
namespace Go.Proofs.YtkcdbcbpbolgkaaGreatDoor
open Tryz
open Go.Abs Go.RowKit Go.Lib
theorem hov (w:World) (b i off o p vc:Nat) (h d:Array Value) (e ev:TypeId) (hb:w.heap[b]? =some (.cells h e (0,0))) (l:w.heap[i]? =some (.cells d ev (0,0))) (m:i≠b) (h0:h.size≠0):
  (callFunc 226 #[.slice (some ⟨i,0,none⟩) 1 vc,.slice (some ⟨b,off,none⟩) o p]).run prog w= .ok (.value (.bool false)) w:=by
 rw[run_callFunc_extern func226 rfl (by kernel_rfl) (by kernel_rfl) (e:=Extern.SlicesOverlaps.overlaps #[46,46] #[4]) (by kernel_rfl),
  Lib.run_overlaps_apart w 46 4 163 underlying46 4 sizeOf163 ⟨i,0,none⟩ ⟨b,off,none⟩ 1 vc o p m ev e d.size h.size (by simp[World.shape?,l]) (by simp[World.shape?,hb]) h0 (by simp[World.frozen?,l]) (by simp[World.frozen?,l])]
 rfl
set_option maxHeartbeats 2000000 in
theorem xfv (w:World) (b m n c i vc:Nat) (h d:Array Value) (e ev:TypeId) (G:w.heap[b]? =some (.cells h e (0,0))) (O:w.heap[m]? =some (.cells d ev (0,0))) (t:m≠b) (hi:i<n) (hr:n+1<=c) (hc:c<=9223372036854775807)
  (hcs:c*4<=h.size) (hvs:4<=d.size) (h1: ∀v∈(h.toList.drop (i*4)).take ((n-i)*4),v.oneCell'=true) (h2: ∀v∈d.toList.take 4,v.oneCell'=true) (c1:Array Value) (o:c1=qfg h ((i+1)*4) ((h.toList.drop (i*4)).take ((n-i)*4))):
  Calls prog 142 #[.slice (some ⟨b,0,none⟩) n c,.int .i64 i,.slice (some ⟨m,0,none⟩) 1 vc] w λex w'=>
   ex= .returned (.slice (some ⟨b,0,none⟩) (n+1) c)∧w'=(w.drew.setRow b c1).setRow b (qfg c1 (i*4) (d.toList.take 4)):=by
 obtain⟨i0,C,hz0,l,hzb⟩:=info_parts (P:=prog) (e:=163) (z:= .agg #[.int .i64 0,.int .i64 0,.slice none 0 0,.slice none 0 0]) (size:=4) (bytes:=64) (by kernel_rfl);have hz2: ¬((i:Int)=(n:Int)):=by omega
 have hz3: ¬((c:Int)<(n:Int)+1):=by omega
 have mixed:=follows;have q:=λlb cb=>hov w b m ((i+1)*4) lb cb vc h d e ev G O t (by omega);have hwn:IntKind.i64.wrap ((n:Int)+1)=(n:Int)+1:=by rw[IntKind.wrap_i64];omega
 have hwi:IntKind.i64.wrap ((i:Int)+1)=(i:Int)+1:=by rw[IntKind.wrap_i64];omega
 have hb1:(0:Int)<=(i:Int)+1:=by omega
 have hb3:(i:Int)+1<=(n:Int)+1:=by omega
 have htn:((i:Int)+1).toNat=i+1:=by omega
 have htn2:((n:Int)+1).toNat=n+1:=by omega
 have u72:=run_underlying underlying46;have s128:=sizeOf163;have hb4:(i:Int)<=(n:Int)+1:=by omega
 have hci: ¬(c=i):=by omega
 have hci1: ¬(c=i+1):=by omega
 have hq:h.toList.length=h.size:=jBr;have hqv:d.toList.length=d.size:=jBr;have hle1:(n-i)*4+(i+1)*4<=c*4:=by rw[<- jCp];exact jAy _ (by omega)
 have J:((h.toList.drop (i*4)).take ((n-i)*4)).length=(n-i)*4:=by rw[jAl,jAq];omega
 have F: ∀ty p sc,(Builtin.copy_ #[46,46] ty #[.slice (some ⟨b,(i+1)*4,none⟩) (n-i) p,.slice (some ⟨b,i*4,none⟩) (n+1-i) sc]).run prog w.drew= .ok (.int .i64 ((n-i:Nat):Int)) (w.drew.setRow b c1):=λty p sc=>by
  have:=qkw (P:=prog) (u:=46) (ty:=ty) underlying46 C w.drew b ((i+1)*4) (n-i) p h e G b (i*4) (n+1-i) sc h e G (n-i) (by simp only[Nat.min_def];split<;>omega) (by rw[l];omega) (by rw[l];omega) (by rw[l];exact h1);rw[l,<- o]at this;exact this
 have hs1:c1.size=h.size:=by rw[o];exact qd3 _ _ _ (by rw[J];omega)
 have E: ∀(W:World),W.heap=(w.drew.setRow b c1).heap-> ∀ty p,(Builtin.copy_ #[46,46] ty #[.slice (some ⟨b,i*4,none⟩) (n+1-i) p,.slice (some ⟨m,0,none⟩) 1 vc]).run prog W= .ok (.int .i64 ((1:Nat):Int)) (W.setRow b (qfg c1 (i*4) (d.toList.take 4))):=λW R ty p=>by
  have M:W.heap[b]? =some (.cells c1 e (0,0)):=by rw[R];exact setRow_heap w.drew b h c1 e (0,0) G
  have I:W.heap[m]? =some (.cells d ev (0,0)):=by rw[R,setRow_other w.drew b m c1 t];exact O
  have:=qkw (P:=prog) (u:=46) (ty:=ty) underlying46 C W b (i*4) (n+1-i) p c1 e M m 0 1 vc d ev I 1 (by simp only[Nat.min_def];split<;>omega) (by rw[l];omega) (by rw[l];omega) (by rw[l];simpa using h2);rw[l]at this;simpa using this
 go_enter func142,ntmps142
 go_wp2_with (simp only[q])
 go_region_law_o (refine step_copy_runI rfl _ _ 46 46 rfl _ _ (by simp[Act.eval,Act.put]) (by simp[Act.eval,Act.put]) (F _ _ _) ?_)
 go_wp2_with (at_builtin;refine wpList_copy_runI _ rfl _ _ 46 46 rfl _ _ rfl rfl (E _ rfl _ _) ?_)
 go_ret
 exact⟨rfl,by rw[o]⟩
set_option maxHeartbeats 2000000 in
theorem xfw (w:World) (e:Option Addr) (l n c vc:Nat) (r:Value) (W:World) (d: ∀ty,(Builtin.append_ #[46,46] ty #[.slice e n c,.slice (some ⟨l,0,none⟩) 1 vc]).run prog w= .ok r W) (hn:n<=c) (hc:c<=9223372036854775807) (h0:e=none->c=0):
  Calls prog 142 #[.slice e n c,.int .i64 n,.slice (some ⟨l,0,none⟩) 1 vc] w λex w'=>ex= .returned r∧w'=W:=by
 have mixed:=follows;have u72:=run_underlying underlying46;have s128:=sizeOf163;cases e with
 |none=>
  have i:=h0 rfl;have h:n=0:=by omega
  subst i;subst h;go_enter func142,ntmps142
  go_wp2_with (at_builtin;refine Lib.wpList_append_run _ rfl _ _ _ _ rfl _ _ rfl rfl _ _ (d _) ?_)
  go_ret
  exact⟨rfl,rfl⟩
 |some ad=>
  go_enter func142,ntmps142
  go_wp2_with (at_builtin;refine Lib.wpList_append_run _ rfl _ _ _ _ rfl _ _ rfl rfl _ _ (d _) ?_)
  all_goals (go_ret;exact⟨rfl,rfl⟩)
set_option maxHeartbeats 2000000 in
theorem xlq (w:World) (b F n c i vc:Nat) (d l:Array Value) (e ev:TypeId) (hb:w.heap[b]? =some (.cells d e (0,0))) (hv:w.heap[F]? =some (.cells l ev (0,0))) (hi:i<n) (hn:n<=c) (hr:c<n+1) (hbig:(n+1)*64<=140737488355328)
  (hcs:c*4<=d.size) (hvs:4<=l.size) (h1: ∀v∈(d.toList.drop (i*4)).take ((n-i)*4),v.oneCell'=true) (h2: ∀v∈l.toList.take 4,v.oneCell'=true):
  Calls prog 142 #[.slice (some ⟨b,0,none⟩) n c,.int .i64 i,.slice (some ⟨F,0,none⟩) 1 vc] w λex w'=>
   ∃G R c1 c2,ex= .returned (.slice (some ⟨w.heap.size,0,none⟩) (n+1) G)∧n+1<=G∧G<=maxLen∧R=((d.toList.take (i*4)).toArray++Builtin.zeroCells #[.int .i64 0,.int .i64 0,.slice none 0 0,.slice none 0 0] (n+1-i)++Builtin.zeroCells #[.int .i64 0,.int .i64 0,.slice none 0 0,.slice none 0 0] (G-(n+1)))∧
    c1=qfg R (i*4) (l.toList.take 4)∧c2=qfg c1 ((i+1)*4) ((d.toList.drop (i*4)).take ((n-i)*4))∧w'=(((w.alloc (.cells R 163)).drew.setRow w.heap.size c1).drew).setRow w.heap.size c2:=by
 have mixed:=follows;obtain⟨i0,J,hz0,m,U⟩:=info_parts (P:=prog) (e:=163) (z:= .agg #[.int .i64 0,.int .i64 0,.slice none 0 0,.slice none 0 0]) (size:=4) (bytes:=64) (by kernel_rfl);have u72:=run_underlying underlying46;have s128:=sizeOf163;have hz2: ¬((i:Int)=(n:Int)):=by omega
 have hz3:(c:Int)<(n:Int)+1:=by omega
 have hwn:IntKind.i64.wrap ((n:Int)+1)=(n:Int)+1:=by rw[IntKind.wrap_i64];omega
 have hwi:IntKind.i64.wrap ((i:Int)+1)=(i:Int)+1:=by rw[IntKind.wrap_i64];omega
 have Z:(n:Int)+1-(i:Int)=((n+1-i:Nat):Int):=by omega
 have hwk:IntKind.i64.wrap ((n:Int)+1-(i:Int))=(n:Int)+1-(i:Int):=by rw[IntKind.wrap_i64];omega
 have hik:i+(n+1-i)=n+1:=by omega
 have hq:d.toList.length=d.size:=jBr;have hqv:l.toList.length=l.size:=jBr;have Y:i*4<=c*4:=jAy _ (by omega);have X:(n-i)*4+i*4<=c*4:=by rw[<- jCp];exact jAy _ (by omega)
 have hl1:((d.toList.drop (i*4)).take ((n-i)*4)).length=(n-i)*4:=by rw[jAl,jAq];omega
 have hold:(Builtin.firstCells i0.size i (.slice (some ⟨b,0,none⟩) i c)).run prog w.drew= .ok (d.toList.take (i*4)).toArray w.drew:=by
  rw[m];refine run_firstCells_some w.drew 4 i ⟨b,0,none⟩ i c _ (by rw[jAl];omega) (λj v hj=> ?_);rw[jBx]at hj;split at hj
  ·rw[Addr.add_lit,Nat.zero_add];have hb':w.drew.heap[b]? =some (.cells d e (0,0)):=hb;simpa[World.cell?,hb']using hj
  ·cases hj
 have I: ∀ty,(Builtin.append_ #[46,3] ty #[.slice (some ⟨b,0,none⟩) i c,.int .i64 ((n:Int)+1-(i:Int))]).run prog w=
   .ok (.slice (some ⟨w.heap.size,0,none⟩) (n+1) (grownCap w (n+1) c 163)) (w.drew.alloc (.cells ((d.toList.take (i*4)).toArray++Builtin.zeroCells #[.int .i64 0,.int .i64 0,.slice none 0 0,.slice none 0 0] (n+1-i)++Builtin.zeroCells #[.int .i64 0,.int .i64 0,.slice none 0 0,.slice none 0 0] (grownCap w (n+1) c 163-(n+1))) 163)):=λty=>by
  have h:=Lib.run_append_grow_zeros w 46 3 ty 163 i0 _ .i64 .i64 underlying46 underlying3 J hz0 (some ⟨b,0,none⟩) i c _ hold (n+1-i) (by omega) (by omega) (by omega) (by omega) (by rw[U];omega) (by rw[U,hik];exact growslice_fits hr hbig);rw[hik]at h;rw[Z];exact h
 have hGn:n+1<=grownCap w (n+1) c 163:=grownCap_ge w _ _ _;have O:grownCap w (n+1) c 163<=maxLen:=grownCap_le_maxLen w (n+1) c 163 (by unfold maxLen;omega);obtain⟨G,hG⟩: ∃G,G=grownCap w (n+1) c 163:=⟨_,rfl⟩;rw[<- hG]at I hGn O;obtain⟨R,hR⟩: ∃R:Array Value,R=((d.toList.take (i*4)).toArray++Builtin.zeroCells #[.int .i64 0,.int .i64 0,.slice none 0 0,.slice none 0 0] (n+1-i)++Builtin.zeroCells #[.int .i64 0,.int .i64 0,.slice none 0 0,.slice none 0 0] (G-(n+1))):=⟨_,rfl⟩;rw[<- hR]at I;have hRs:R.size=G*4:=by
  rw[hR];simp only[jEy,qd0,List.size_toArray,jAl];rw[jDy (by omega)];simp;omega
 obtain⟨c1,q⟩: ∃c1,c1=qfg R (i*4) (l.toList.take 4):=⟨_,rfl⟩;obtain⟨c2,M⟩: ∃c2,c2=qfg c1 ((i+1)*4) ((d.toList.drop (i*4)).take ((n-i)*4)):=⟨_,rfl⟩;have hs1:c1.size=G*4:=by rw[q,qd3 _ _ _ (by rw[jAl];omega),hRs]
 have hnb:b<w.heap.size:=(jA5.1 hb).1;have hnv:F<w.heap.size:=(jA5.1 hv).1;have t:(w.drew.alloc (.cells R 163)).heap[w.heap.size]? =some (.cells R 163 (0,0)):=heap_alloc_new w.drew _;have o: ∀k,k<w.heap.size->(w.drew.alloc (.cells R 163)).heap[k]? =w.heap[k]? :=λk hk=>heap_alloc_old w.drew (.cells R 163) hk;have E: ∀(W:World),W.heap=(w.drew.alloc (.cells R 163)).heap-> ∀ty p,(Builtin.copy_ #[46,46] ty #[.slice (some ⟨w.heap.size,i*4,none⟩) (n+1-i) p,.slice (some ⟨F,0,none⟩) 1 vc]).run prog W= .ok (.int .i64 ((1:Nat):Int)) (W.setRow w.heap.size c1):=λW hW ty p=>by
  have:=qkw (P:=prog) (u:=46) (ty:=ty) underlying46 J W w.heap.size (i*4) (n+1-i) p R 163 (by rw[hW];exact t) F 0 1 vc l ev (by rw[hW,o F hnv];exact hv) 1 (by simp only[Nat.min_def];split<;>omega) (by rw[m];omega) (by rw[m];omega) (by rw[m];simpa using h2);rw[m]at this;rw[q];simpa using this
 have C: ∀(W:World),W.heap=((w.drew.alloc (.cells R 163)).setRow w.heap.size c1).heap-> ∀ty p sc,(Builtin.copy_ #[46,46] ty #[.slice (some ⟨w.heap.size,(i+1)*4,none⟩) (n-i) p,.slice (some ⟨b,i*4,none⟩) (n-i) sc]).run prog W= .ok (.int .i64 ((n-i:Nat):Int)) (W.setRow w.heap.size c2):=λW hW ty p sc=>by
  have:=qkw (P:=prog) (u:=46) (ty:=ty) underlying46 J W w.heap.size ((i+1)*4) (n-i) p c1 163 (by rw[hW];exact setRow_heap _ _ R c1 _ _ t) b (i*4) (n-i) sc d e (by rw[hW,setRow_other _ _ _ _ (by omega),o b hnb];exact hb) (n-i) (by simp only[Nat.min_def];split<;>omega) (by rw[m];omega) (by rw[m];omega) (by rw[m];exact h1);rw[m,<- M]at this;exact this
 have hb1:(0:Int)<=(i:Int)+1:=by omega
 have hb3:(i:Int)+1<=(n:Int)+1:=by omega
 have hb4:(i:Int)<=(n:Int)+1:=by omega
 have hb5:(i:Int)<=(n:Int):=by omega
 have hb6:(i:Int)<=(c:Int):=by omega
 have htn:((i:Int)+1).toNat=i+1:=by omega
 have htn2:((n:Int)+1).toNat=n+1:=by omega
 have hci: ¬(c=i):=by omega
 have hGi: ¬(G=i):=by omega
 have hGi1: ¬(G=i+1):=by omega
 have hG63:G<=9223372036854775807:=by unfold maxLen at O;omega
 refine Calls.mono (R:=λex w'=>ex= .returned (.slice (some ⟨w.heap.size,0,none⟩) (n+1) G)∧w'=(((w.alloc (.cells R 163)).drew.setRow w.heap.size c1).drew).setRow w.heap.size c2) ?_ (λex w' h=>⟨G,R,c1,c2,h.1,hGn,O,hR,q,M,h.2⟩);clear Z hik hold hR hG hRs q M hs1 hl1 Y X;go_enter func142,ntmps142
 have e1: ∀ty p,(Builtin.copy_ #[46,46] ty #[.slice (some ⟨w.heap.size,i*4,none⟩) (n+1-i) p,.slice (some ⟨F,0,none⟩) 1 vc]).run prog (w.alloc (.cells R 163)).drew= .ok (.int .i64 ((1:Nat):Int)) ((w.alloc (.cells R 163)).drew.setRow w.heap.size c1):=E _ rfl;have e2: ∀ty p sc,(Builtin.copy_ #[46,46] ty #[.slice (some ⟨w.heap.size,(i+1)*4,none⟩) (n-i) p,.slice (some ⟨b,i*4,none⟩) (n-i) sc]).run prog (((w.alloc (.cells R 163)).drew.setRow w.heap.size c1).drew)= .ok (.int .i64 ((n-i:Nat):Int)) ((((w.alloc (.cells R 163)).drew.setRow w.heap.size c1).drew).setRow w.heap.size c2):=C _ rfl;clear E C;go_wp2_with (first
  |(at_builtin;refine Lib.wpList_append_run _ rfl _ _ _ _ rfl _ _ rfl rfl _ _ (I _) ?_)
  |(at_builtin;refine wpList_copy_runI _ rfl _ _ 46 46 rfl _ _ rfl rfl (e1 _ _) ?_))
 go_region_law_o (refine step_copy_runI rfl _ _ 46 46 rfl _ _ (by simp[Act.eval,Act.put]) (by simp[Act.eval,Act.put]) (e2 _ _ _) ?_)
 go_wp2
 go_ret
 exact⟨rfl,rfl⟩
section
variable {P:Program} {g:Ghost} {w:World}
theorem xa6 {es e vc:Nat} {d:Array Value} {ev:TypeId} (hv:w.heap[e]? =some (.cells d ev (0,0))) (h:es<=d.size):
  Go.Abs.Source P es (.slice (some ⟨e,0,none⟩) 1 vc) 1 w (d.toList.take es)∧(Builtin.firstCells es 1 (.slice (some ⟨e,0,none⟩) 1 vc)).run P w.drew= .ok (d.toList.take es).toArray w.drew:=by
 have hq:d.toList.length=d.size:=jBr;have key: ∀W:World,W.heap=w.heap->(Builtin.firstCells es 1 (.slice (some ⟨e,0,none⟩) 1 vc)).run P W= .ok (d.toList.take es).toArray W:=by
  intro W hW;refine run_firstCells_some (P:=P) W es 1 _ _ _ _ (by rw[jAl];omega) (λj v i=> ?_);rw[jBx]at i;split at i
  ·rw[Addr.add_lit,Nat.zero_add];have l:W.heap[e]? =some (.cells d ev (0,0)):=by rw[hW];exact hv
   simpa[World.cell?,l]using i
  ·cases i
 exact⟨⟨by simp[Builtin.lenOf],key w rfl⟩,key w.drew rfl⟩
end
theorem xa7 {α:Type} (l:List α) (a b:Nat):(l.drop a).take b=(l.take (a+b)).drop a:=by rw[List.drop_take];congr 1;omega
theorem flat_take {es:Nat}: ∀{rows:List (List D)},(∀r∈rows,r.length=es) -> ∀i,(rows.take i).flatten=rows.flatten.take (i*es)
 | [],_,i=>by simp
 |r::l,h,0=>by simp
 |r::l,h,i+1=>by
  have hr:r.length=es:=h r (by simp);rw[jDr,List.flatten_cons,List.flatten_cons,flat_take (λx hx=>h x (by simp[hx])) i,jE2,hr,jCz];rw[jAr (show r.length<=i*es+es by omega)];congr 2;omega
theorem flat_drop {es:Nat}: ∀{rows:List (List D)},(∀r∈rows,r.length=es) -> ∀i,(rows.drop i).flatten=rows.flatten.drop (i*es)
 | [],_,i=>by simp
 |r::l,h,0=>by simp
 |r::l,h,i+1=>by
  have hr:r.length=es:=h r (by simp);rw[jCs,List.flatten_cons,flat_drop (λx hx=>h x (by simp[hx])) i,List.drop_append,hr,jCz];rw[jDu (show r.length<=i*es+es by omega),List.nil_append];congr 1;omega
theorem q19 (d:Array Value) (k:Nat) (a m:List Value) (ha:a.length=4) (hk:k+4<=d.size): ∃rest,(qfg (qfg d (k+4) m) k a).toList=d.toList.take k++a++m++rest:=by
 have hq:d.toList.length=d.size:=jBr;have hl:(d.toList.take (k+4)).length=k+4:=by rw[jAl];omega
 refine⟨d.toList.drop (k+4+m.length),?_⟩;simp only[qtw,ha];rw[jAj (d.toList.take (k+4)),jBq (by omega),List.take_take,jDy (by omega),jFb hl];simp
theorem q5j (d:Array Value) (k:Nat) (a m:List Value) (ha:a.length=4) (hk:k+4<=d.size): ∃rest,(qfg (qfg d k a) (k+4) m).toList=d.toList.take k++a++m++rest:=by
 have hq:d.toList.length=d.size:=jBr;have hl:(d.toList.take k++a).length=k+4:=by simp[ha];omega
 exact⟨_,by simp only[qtw];rw[List.take_left' hl]⟩
theorem quz {c:Array Value} {L rest:List Value} (h:c.toList=L++rest): ∀(j:Nat) (u:Value),L[j]? =some u->c[j]? =some u:=by
 intro j u e;have d:j<L.length:=(jAd.1 e).1;rw[<- jD2,h,jA3 d];exact e
theorem qry (w:World) (b:Nat) (c:Array Value):(w.setRow b c).heap.size=w.heap.size:=by simp[World.setRow]
theorem World.drew_heap' (w:World):w.drew.heap=w.heap:=rfl
set_option maxHeartbeats 1000000 in
theorem xfx (rows:List (List D)) (row:List D) (i:Nat) (hi:i<=rows.length) (hl:rows.length<=1000) (hr:row.length=4):
  qh prog 142 [.uni 0 4 rows,.d (.int .i64 i),.uni 1 4 [row]] [] (.uni 0 4 (rows.take i++ [row]++rows.drop i)) []:=by
 intro g w vs hd hlen hv ho;obtain⟨i0,hi0,hz0,q,hzb⟩:=info_parts (P:=prog) (e:=163) (z:= .agg #[.int .i64 0,.int .i64 0,.slice none 0 0,.slice none 0 0]) (size:=4) (bytes:=64) (by kernel_rfl);match vs,hlen with
 | [v0,v1,v2],_=>
 have h0:=(hv 0 v0 _ rfl rfl).2 (by simp[ve,ASlot.toks]);have h1:v1= .int .i64 i:=ky (hv 1 v1 _ rfl rfl);have h2:=(hv 2 v2 _ rfl rfl).2 (by simp[ve,ASlot.toks]);subst h1;obtain⟨X,vc,p,ev,rfl,gv,hhv,_,_,hvs,_,F⟩:=xdi h2 (by simp);have Y:4<=p.size:=by
  have:1<=vc:=by simpa using (by assumption: [row].length<=vc)
  omega
 simp only[jBo,Nat.one_mul,List.flatten_cons,List.flatten_nil,jAu]at F;obtain⟨src,srcd⟩:=xa6 (P:=prog) (vc:=vc) hhv Y;have fin: ∀{g':Ghost} {W:World} {v:Value} {E:List (List D)},Qt (λ_=>False) g w g' W [0] [0] ->RC g' W [0] v (.uni 0 4 E) ->
   ∃v' g'' live',Ending.returned v= .returned v'∧G g w g'' W∧Dom g'' W∧(∀t∈(ASlot.uni 0 4 E).toks++xf [],t∈live')∧RS g'' W live' v' (.uni 0 4 E)∧ObjsOk g'' W live' []:=by
  intro g' W v E hq hrc;refine⟨v,g',[0],rfl,hq.toG,hq.dom,by simp[ASlot.toks,xf],jk hrc,⟨λid o h=>by simp at h,λb b' id h1 h2=>ho.inj b b' id (hq.objB b id h1) (hq.objB b' id h2),λb id h=> ?_⟩⟩;obtain⟨o,ho',_⟩:=ho.ids b id (hq.objB b id h);simp at ho'
 by_cases hin:i=rows.length
 ·subst hin;rw[jAs,jC0,jAu];have more: ∀(base:Option Addr) (cap:Nat) (olds:List Value),cap<rows.length+1->rows.length<=cap->(base=none->cap=0) ->(∀r∈rows,r.length=4) ->RL g w olds rows.flatten->
    (Builtin.firstCells 4 rows.length (.slice base rows.length cap)).run prog w.drew= .ok olds.toArray w.drew->
    Calls prog 142 #[.slice base rows.length cap,.int .i64 rows.length,.slice (some ⟨X,0,none⟩) 1 vc] w λe w'=> ∃v g' live',e= .returned v∧G g w g' w'∧Dom g' w'∧(∀t∈(ASlot.uni 0 4 (rows++ [row])).toks++xf [],t∈live')∧RS g' w' live' v (.uni 0 4 (rows++ [row]))∧ObjsOk g' w' live' []:=by
   intro base cap olds hc hc0 hb0 hes ho1 ho2;have key: ∀ty,∃v w' g',(Builtin.append_ #[46,46] ty #[.slice base rows.length cap,.slice (some ⟨X,0,none⟩) 1 vc]).run prog w= .ok v w'∧Qt (λ_=>False) g w g' w' [0] [0]∧RC g' w' [0] v (.uni 0 4 (rows++ [row])):=λty=>by
    have:=qhc (P:=prog) (T:=λ_=>False) (live:= [0]) (live':= [0]) (g:=g) (w:=w) (t:=46) (u:=46) (ty:=ty) (r:= [row]) (news:=p.toList.take 4) (x:= .slice (some ⟨X,0,none⟩) 1 vc) hd underlying46 hi0 hz0 (by rw[q];rfl) (.inl ⟨_,underlying46⟩) (by omega) (base:=base) (sCap:=cap) (l:=rows) (olds:=olds) (by rw[q];exact hes) ho1 (by rw[q];exact ho2) src.1 (by rw[q];exact srcd) (by simpa using F) (by rw[q];simpa using hr) (by simpa using hc) (by simp;omega) (by rw[hzb];simp;omega) 0 (λt h=>h.elim);rwa [q]at this
   obtain⟨v,W,g',k1,k2,k3⟩:=key 0;have hall: ∀ty,(Builtin.append_ #[46,46] ty #[.slice base rows.length cap,.slice (some ⟨X,0,none⟩) 1 vc]).run prog w= .ok v W:=λty=>k1;refine(xfw w base X rows.length cap vc v W hall hc0 (by omega) hb0).mono (λe w' he=> ?_);obtain⟨rfl,rfl⟩:=he;exact fin k2 k3
  rcases h0 with⟨ad,rfl,hr0⟩|⟨b,cap,m,e,rfl,gb,hb,J,O,M,hes,hcell⟩
  ·subst hr0;refine more ad 0 [] (by simp) (by simp) (λ_=>rfl) (by simp) ⟨by simp,by simp,by simp⟩ ?_;cases ad with
   |none=>simp[Builtin.firstCells]
   |some a0=>exact run_firstCells_some (P:=prog) w.drew 4 0 a0 _ _ [] (by simp) (by simp)
  ·by_cases I:rows.length+1<=cap
   ·have key: ∀ty,∃v w' g',(Builtin.append_ #[46,46] ty #[.slice (some ⟨b,0,none⟩) rows.length cap,.slice (some ⟨X,0,none⟩) 1 vc]).run prog w= .ok v w'∧Qt (λ_=>False) g w g' w' [0] [0]∧RC g' w' [0] v (.uni 0 4 (rows++ [row])):=λty=>by
     have:=qm9 (P:=prog) (T:=λ_=>False) (live:= [0]) (live':= [0]) (g:=g) (w:=w) (t:=46) (u:=46) (ty:=ty) (r:= [row]) (news:=p.toList.take 4) (x:= .slice (some ⟨X,0,none⟩) 1 vc) hd underlying46 hi0 (.inl ⟨_,underlying46⟩) (l:=rows) (by rw[q];exact hes) hcell gb hb O (by rw[q];exact M) (by rw[q];exact src) (by simpa using F) (by rw[q];simpa using hr) (by simpa using I) 0 (λt h=>h.elim);rwa [q]at this
    obtain⟨v,W,g',k1,k2,k3⟩:=key 0;have hall: ∀ty,(Builtin.append_ #[46,46] ty #[.slice (some ⟨b,0,none⟩) rows.length cap,.slice (some ⟨X,0,none⟩) 1 vc]).run prog w= .ok v W:=λty=>k1;refine(xfw w _ X rows.length cap vc v W hall J (by unfold maxLen at O;omega) (λh=>by cases h)).mono (λe w' he=> ?_);obtain⟨rfl,rfl⟩:=he;exact fin k2 k3
   ·have hu:UniOk g w 0 4 rows (.slice (some ⟨b,0,none⟩) rows.length cap):= .inr ⟨b,cap,m,e,rfl,gb,hb,J,O,M,hes,hcell⟩;obtain⟨base',cap',olds,hv',_,hes',ho1,ho2⟩:=q6a (P:=prog) hu;cases hv';exact more _ cap olds (by omega) J (λh=>by cases h) hes ho1 ho2
 ·have hlt:i<rows.length:=by omega
  have hne:rows≠ []:=by rintro rfl;simp at hlt
  obtain⟨b,cap,m,e,rfl,gb,hb,J,O,M,hes,hrl⟩:=xdi h0 hne;have hq:m.toList.length=m.size:=jBr;have hqv:p.toList.length=p.size:=jBr;have hnb:X≠b:=by rintro rfl;rw[gb]at gv;cases gv
  have hrow4:rows.length*4<=cap*4:=jAy _ J;have hfl:rows.flatten.length=rows.length*4:=xi hes;have Z:(m.toList.drop (i*4)).take ((rows.length-i)*4)=(m.toList.take (rows.length*4)).drop (i*4):=by rw[xa7];congr 2;omega
  have hone1: ∀v∈(m.toList.drop (i*4)).take ((rows.length-i)*4),v.oneCell'=true:=by rw[Z];exact(hrl.drop (i*4)).ones
  have hone2: ∀v∈p.toList.take 4,v.oneCell'=true:=F.ones;have htk:m.toList.take (i*4)=(m.toList.take (rows.length*4)).take (i*4):=by rw[List.take_take,jDy (by omega)]
  have hnew:(rows.take i++ [row]++rows.drop i).flatten=rows.flatten.take (i*4)++row++rows.flatten.drop (i*4):=by simp[flat_take hes,flat_drop hes]
  have hnl:(rows.take i++ [row]++rows.drop i).length=rows.length+1:=by simp;omega
  have hes2: ∀r∈rows.take i++ [row]++rows.drop i,r.length=4:=by
   intro r h;simp only[jAj,jAt,jB2]at h;rcases h with h|h|h
   ·exact hes r (jBf h)
   ·subst h;exact hr
   ·exact hes r (jCe h)
  generalize hL:m.toList.take (i*4)++p.toList.take 4++(m.toList.drop (i*4)).take ((rows.length-i)*4)=L;have hLr:RL g w L (rows.take i++ [row]++rows.drop i).flatten:=by
   rw[<- hL,hnew,Z,htk];exact((hrl.take (i*4)).append F).append (hrl.drop (i*4))
  by_cases I:rows.length+1<=cap
  ·obtain⟨c1,U⟩: ∃c1,c1=qfg m ((i+1)*4) ((m.toList.drop (i*4)).take ((rows.length-i)*4)):=⟨_,rfl⟩;refine(xfv w b X rows.length cap i vc m p e ev hb hhv hnb hlt I (by unfold maxLen at O;omega) M Y hone1 hone2 c1 U).mono (λex W he=> ?_);obtain⟨rfl,rfl⟩:=he;have ha4:(p.toList.take 4).length=4:=by rw[jAl];omega
   have hm:((m.toList.drop (i*4)).take ((rows.length-i)*4)).length=(rows.length-i)*4:=by rw[jAl,jAq];omega
   obtain⟨rest,C⟩:=q19 m (i*4) (p.toList.take 4) ((m.toList.drop (i*4)).take ((rows.length-i)*4)) ha4 (by omega);rw[show i*4+4=(i+1)*4 by omega,<- U,hL]at C;have hs1:c1.size=m.size:=by rw[U];exact qd3 _ _ _ (by rw[hm];omega)
   have hs2:(qfg c1 (i*4) (p.toList.take 4)).size=m.size:=by rw[qd3 _ _ _ (by rw[ha4,hs1];omega),hs1]
   have hh1:(w.drew.setRow b c1).heap[b]? =some (.cells c1 e (0,0)):=setRow_heap w.drew b m c1 e (0,0) hb;have hh2:=setRow_heap (w.drew.setRow b c1) b c1 (qfg c1 (i*4) (p.toList.take 4)) e (0,0) hh1;have hq2:Qt (λ_=>False) g w g ((w.drew.setRow b c1).setRow b (qfg c1 (i*4) (p.toList.take 4))) [0] [0]:=
    Qt.setUni hd rfl rfl rfl gb (by simp[World.setRow]) (λk hk=>by rw[setRow_other _ _ _ _ hk,setRow_other _ _ _ _ hk];rfl)
   refine fin hq2 ?_;rw[<- hnl];exact qz8 gb hh2 (by omega) O (by rw[hs2];exact M) hes2 (hLr.quiet hd hq2) (quz C)
  ·refine(xlq w b X rows.length cap i vc m p e ev hb hhv hlt J (by omega) (by omega) M Y hone1 hone2).mono (λex W he=> ?_);obtain⟨G,R,c1,c2,rfl,hG1,hG2,hR,U,hc2,rfl⟩:=he;have ha4:(p.toList.take 4).length=4:=by rw[jAl];omega
   have hm:((m.toList.drop (i*4)).take ((rows.length-i)*4)).length=(rows.length-i)*4:=by rw[jAl,jAq];omega
   have hlt4:(m.toList.take (i*4)).length=i*4:=by rw[jAl];omega
   have hRs:R.size=G*4:=by
    rw[hR];simp only[jEy,qd0,List.size_toArray,hlt4];simp;omega
   obtain⟨rest,C⟩:=q5j R (i*4) (p.toList.take 4) ((m.toList.drop (i*4)).take ((rows.length-i)*4)) ha4 (by omega);have hRt:R.toList.take (i*4)=m.toList.take (i*4):=by
    rw[hR];simp only[Array.toList_append,jAj];exact List.take_left' hlt4
   rw[show i*4+4=(i+1)*4 by omega,<- U,<- hc2,hRt,hL]at C;have hs1:c1.size=R.size:=by rw[U];exact qd3 _ _ _ (by rw[ha4];omega)
   have hs2:c2.size=R.size:=by rw[hc2,qd3 _ _ _ (by rw[hm,hs1];omega),hs1]
   have hn0:(w.alloc (.cells R 163)).drew.heap[w.heap.size]? =some (.cells R 163 (0,0)):=heap_alloc_new w _;have hh1:((w.alloc (.cells R 163)).drew.setRow w.heap.size c1).drew.heap[w.heap.size]? =some (.cells c1 163 (0,0)):=setRow_heap _ _ R c1 _ _ hn0;have hh2:=setRow_heap _ w.heap.size c1 c2 _ _ hh1;have hq2:Qt (λ_=>False) g w (g.at w.heap.size (.uni 0)) (((w.alloc (.cells R 163)).drew.setRow w.heap.size c1).drew.setRow w.heap.size c2) [0] [0]:=
    Qt.addUni (W:=((w.alloc (.cells R 163)).drew.setRow w.heap.size c1).drew.setRow w.heap.size c2) hd rfl rfl rfl 0 (by rw[qry,World.drew_heap',qry];exact Array.size_push _) (λk hk=>by
     rw[setRow_other _ _ _ _ (by omega)];show((w.alloc (.cells R 163)).drew.setRow w.heap.size c1).heap[k]? =_;rw[setRow_other _ _ _ _ (by omega)];exact heap_alloc_old w (.cells R 163) hk)
   refine fin hq2 ?_;rw[<- hnl];exact qz8 (Ghost.at_same _ _ _) hh2 (by omega) hG2 (by rw[hs2,hRs];exact jAh _) hes2 (hLr.quiet hd hq2) (quz C)
end Go.Proofs.YtkcdbcbpbolgkaaGreatDoor
