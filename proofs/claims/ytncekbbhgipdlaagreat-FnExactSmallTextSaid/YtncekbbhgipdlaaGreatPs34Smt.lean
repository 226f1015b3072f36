/-
  The walks over the reference's l5Simple, by the tree, and SimplifyExpr.
  Conditions: the expression reads as such.
-/
import Derived.Test.YtncekbbhgipdlaaGreatPs32Lop
set_option maxHeartbeats 4000000
namespace Go.Proofs.YtncekbbhgipdlaaGreat
open Go.RowKit
theorem Zem {l:List (Int × Int)} (h:1≤l.length):l≠[]:=fun h0=>by rw[h0] at h;exact absurd h (by decide)
def SimS (t:Ex):Prop:=∀ (v:Value) (w:World),Pairs 0 w v t.post→Calls Tryz.prog 44 #[v] w fun e w'=>RPo (simE t).post w e w'
theorem ZhW {a b t:Ex} {k:Int} (hp:Zae (k,0)=2) (ht:t.post=a.post++b.post++[(k,0)]) (h60:t.post.length≤60) (hm:mkL k 0 (simE a).post (simE b).post=(simE t).post) (hk:¬ (k=7∨k=8)) (ha:SimS a) (hb:SimS b):SimS t:=by
 intro v w h;have hok:=Zau t h60;have h1:=Zbg a;have h2:=Zbg b;have h3:t.post.length=a.post.length+b.post.length+1:=by rw[ht];exact Zdb a b _
 rw[← hm];refine Zdc t.post a.post b.post (simE a).post (simE b).post k 0 hok (fun xs ys hs => ?_) ?_ (fun _ v w hp=>(ha v w hp).mono fun _ _ h=>Zpg h) (fun h=>absurd h (Zem (Zao a))) (fun _ v w hp=>(hb v w hp).mono fun _ _ h=>Zpg h) (fun h=>absurd h (Zem (Zao b))) (fun h=>absurd h (Zem (Zao a))) (fun h=>absurd h hk) (by omega) (by omega) v w h
 ·rw[ht] at hs;exact Zdl hp hs
 rw[ht];exact Zbq _ _
theorem Zkt {a t:Ex} {k:Int} (hp:Zae (k,0)=1) (ht:t.post=a.post++[(k,0)]) (h60:t.post.length≤60) (hm:mkL k 0 (simE a).post []=(simE t).post) (ha:SimS a):SimS t:=by
 intro v w h;have hok:=Zau t h60;have h1:=Zbg a;have h3:t.post.length=a.post.length+1:=by rw[ht,List.length_append];rfl
 rw[← hm];refine Zdc t.post a.post [] (simE a).post [] k 0 hok (fun xs ys hs => ?_) ?_ (fun _ v w hp=>(ha v w hp).mono fun _ _ h=>Zpg h) (fun h=>absurd h (Zem (Zao a))) (fun h=>absurd h (by decide)) (fun _=>rfl) (fun _=>rfl) (fun _=>Zao _) (by omega) (by decide) v w h
 ·rw[ht] at hs;exact Zdm hp hs
 rw[ht];exact Zbq _ _
theorem Zf5 {t:Ex} {k z:Int} (hp:Zae (k,z)=0) (ht:t.post=[(k,z)]) (hk:k≤3) (hs:simE t=t):SimS t:=by
 intro v w h;have hok:=Zau t (by rw[ht];show 1≤60;decide);have hm:mkL k z [] []=t.post:=by rw[ht];unfold mkL;rw[if_neg (by omega),if_neg (by omega),if_neg (by omega),if_neg (by omega),if_neg (by omega)];rfl
 rw[hs,← hm];refine Zdc t.post [] [] [] [] k z hok (fun xs ys hs => ?_) ?_ (fun h=>absurd h (by decide)) (fun _=>rfl) (fun h=>absurd h (by decide)) (fun _=>rfl) (fun _=>rfl) (fun h=>by omega) (by decide) (by decide) v w h
 ·rw[ht] at hs;exact ZdH hp hs
 rw[ht];rfl
theorem Zn3:∀ t:Ex,t.post.length≤60→SimS t:=by
 intro t
 induction t with
 | zero=>exact fun _=>Zf5 Zeh rfl (by decide) rfl
 | one=>exact fun _=>Zf5 Zeg rfl (by decide) rfl
 | ltr c=>exact fun _=>Zf5 (ZdI c) rfl (by decide) rfl
 | join a b ha hb=>exact fun h=>ZhW Zd2 rfl h (ZfM _ _) (by decide) (ha (by simp[Ex.post] at h;omega)) (hb (by simp[Ex.post] at h;omega))
 | alt a b ha hb=>exact fun h=>ZhW Zge rfl h (Zd6 _ _) (by decide) (ha (by simp[Ex.post] at h;omega)) (hb (by simp[Ex.post] at h;omega))
 | both a b ha hb=>exact fun h=>ZhW Zd3 rfl h (ZkD _ _) (by decide) (ha (by simp[Ex.post] at h;omega)) (hb (by simp[Ex.post] at h;omega))
 | neg a ha=>exact fun h=>Zkt Zgd rfl h (ZmP _) (ha (by simp[Ex.post] at h;omega))
 | star a ha=>exact fun h=>Zkt Zd1 rfl h (Zh9 _) (ha (by simp[Ex.post] at h;omega))
noncomputable def simL (es:List (Int × Int)):List (Int × Int):=if h:exOk es=true then(simE (parse h).choose).post else []
theorem ZiO {t:Ex} (h:t.post.length≤60):simL t.post=(simE t).post:=by have hok:=Zau t h;unfold simL;rw[dif_pos hok,ZkA (parse hok).choose_spec]
theorem Zn4 {es:List (Int × Int)} (h:exOk es=false):simL es=[]:=by unfold simL;rw[dif_neg (by simp[h])]
theorem ZdR (es:List (Int × Int)) (v:Value) (w:World) (hlen:es.length≤2000000) (h:Pairs 0 w v es):Calls Tryz.prog 19 #[v] w fun e w'=>RPo (simL es) w e w':=by
 cases hr:exOk es with
 | true =>
  obtain⟨t,rfl⟩:=parse hr;have h60:t.post.length≤60:=(Zbk hr).2.2.2;rw[ZiO h60];have HT:=qh (Zn3 t h60);have Hh:=qh h;replace hr:=qh hr;clear h
  go_enter Tryz.func19, Tryz.ntmps19
  go_wp2_with fail;refine(Zbj _ _ _ hlen Hh.out true hr.out).mono ?_;rintro e w1 ⟨rfl,hb1⟩;have HB1:=qh hb1;have HP:=qh (Hh.out.below hb1);clear hb1;go_wp2_with fail;refine(HT.out _ _ HP.out).mono ?_;rintro e w2 ⟨a2,c2,rfl,hS2⟩;have HS:=qh (((St.start w).call HB1.out).cat hS2);clear hS2;go_wp2;go_ret;exact⟨_,_,rfl,HS.out⟩
 | false =>
  rw[Zn4 hr];have Hh:=qh h;replace hr:=qh hr;clear h
  go_enter Tryz.func19, Tryz.ntmps19
  go_wp2_with fail;refine(Zbj _ _ _ hlen Hh.out false hr.out).mono ?_;rintro e w1 ⟨rfl,hb1⟩;have HS:=qh ((St.start w).call hb1);clear hb1;go_wp2;go_ret;exact⟨_,_,rfl,HS.out.newRow0 62 2⟩
end Go.Proofs.YtncekbbhgipdlaaGreat
